/- Read: lines one by one. -/
import Derived.Test.YtkpadfebkaangaaGreatDoorTka
import Derived.Test.YtkpadfebkaangaaGreatDoorSh2
import Derived.Test.YtkpadfebkaangaaGreatDoorCdM
import Derived.Test.YtkpadfebkaangaaGreatDoorLx
import Derived.Test.YtkpadfebkaangaaGreatDoorRows
import Derived.MakeChecks
import Derived.LaidLaws
import Derived.Lib.LaidTab
import Derived.OpenShut
import Derived.Test.YtkpadfebkaangaaGreatDoorRec
namespace Go.Proofs.YtkpadfebkaangaaGreatDoor.Ev
noncomputable section
open Go Go.RowKit Go.Proofs.YtkpadfebkaangaaGreatDoor.Ms
set_option linter.all false
set_option maxRecDepth 100000
set_option maxHeartbeats 2000000
def FR (F:Fns):Fns:=BX noB qem (FTk F)
theorem TkF.upR {F:Fns} (f:TkF F):TkF (FR F):=f.up1.up  rfl fun _ _=>rfl
structure LnK (F:Fns) (ln:Nat) (s:Scr) (ws:List (List UInt8)) (s':Scr):Prop where
 n:(10:UInt8)∉jcy ws
 k:∀ p h,PtS p 0 h s ln->WC (FR F) 20 [.s (.ptr p 0),.s (.str (jcy ws))] h (qwd p h s' ln)
inductive Chain (F:Fns):Nat->Scr->List (List (List UInt8))->Scr->Prop
 | nil {ln:Nat} {s:Scr}:Chain F ln s [] s
 | cons {ln:Nat} {s s1 s':Scr} {ws:List (List UInt8)} {L:List (List (List UInt8))}:LnK F ln s ws s1->Chain F (ln+1) s1 L s'->Chain F ln s (ws::L) s'
theorem Chain.app {F:Fns} {ln:Nat} {s s1 s':Scr} {L M:List (List (List UInt8))} (a:Chain F ln s L s1) (b:Chain F (ln+L.length) s1 M s'):Chain F ln s (L++M) s':=by
 induction a with
 | nil=>grind
 | cons k _ ih=>exact .cons k (ih (by grind))
theorem j6w (ws:List (List UInt8)) (L:List (List (List UInt8))):txt (ws::L)=jcy ws++10::txt L:=by
 show jcy ws++[10]++txt L=_
 simp
section
variable {F:Fns} {p:Nat} {h:Hp}
theorem j0r {h:Hp} {a r:List UInt8} (ha:(10:UInt8)∉a) (hl:(a++10::r).length<=4000000000):jsi 19 [.s (.str (a++10::r)),.s (.str [10])] h=some (.tup [(false,[.str a]),(false,[.str r]),(false,[.bool true])],h):=by
 show oif (Nat.ble (jb3 (a++10::r)) 4000000000) (ok (qr9 10 (a++10::r)) h) none=_
 rw[ja4,jbl hl]
 unfold qr9
 rw[qd5 ha];rfl
theorem qhv {a:List UInt8} (ha:(10:UInt8)∉a):j0v 10 a=none:=by
 induction a with
 | nil=>rfl
 | cons b a ih =>
  grind[jif]
theorem qep {h:Hp} {a:List UInt8} (ha:(10:UInt8)∉a) (hl:a.length<=4000000000):jsi 19 [.s (.str a),.s (.str [10])] h=some (.tup [(false,[.str a]),(false,[.str []]),(false,[.bool false])],h):=by
 show oif (Nat.ble (jb3 a) 4000000000) (ok (qr9 10 a) h) none=_
 rw[ja4,jbl hl]
 unfold qr9
 rw[qhv ha];rfl
theorem qeq (f:TkF F) {x1 x2 x3 x4 x5 x12 x13:AV} {Q:Ex->St->Prop} {tail:List UInt8} {h0:Hp}:∀ {L:List (List (List UInt8))} {ln:Nat} {s s':Scr} (_:Chain F ln s L s') {h:Hp} (_:PtS p 0 h s ln) (_:(txt L++tail).length<=4000000000) (_:ln+L.length<=100000) (_:∀ n,n<p->h.get n=h0.get n) {x6 x7 x8 x10 x11:AV}
 (hQ:∀ h' x6 x7 x8 x10 x11,PtS p 0 h' s' (ln+L.length)->(∀ n,n<p->h'.get n=h0.get n)->W (FR F) jhf.loop (.mk [.s (.str tail),x1,x2,x3,x4,x5,x6,x7,x8,.s (.ptr p 0),x10,x11,x12,x13] h') Q),
 W (FR F) jhf.loop (.mk [.s (.str (txt L++tail)),x1,x2,x3,x4,x5,x6,x7,x8,.s (.ptr p 0),x10,x11,x12,x13] h) Q
 | [],ln,s,s',c,h,k,hl,hb,low,x6,x7,x8,x10,x11,hQ=>by
  cases c
  exact hQ h _ _ _ _ _ k low
 | ws::L,ln,s,s',c,h,k,hl,hb,low,x6,x7,x8,x10,x11,hQ=>by
  have fr:=f.upR
  rw[f0l] at hb
  cases c with
  | cons c1 c2 =>
  rename_i s1
  have et:txt (ws::L)++tail=jcy ws++10::(txt L++tail):=by rw[j6w];simp
  rw[et] at hl ⊢
  have okh:=k.ok
  have e1:eqO true (some (.s (.str (jcy ws++10::(txt L++tail))))) (some (.s (.str [])))=some (.s (.bool true)):=by
   rw[j6r]
   have:(jcy ws++10::(txt L++tail) == [])=false:=by rw[beq_eq_false_iff_ne];simp
   rw[this];rfl
  have i1:∀ (h:Hp) (Q:AV->Hp->Prop),WC (FR F) 19 [.s (.str (jcy ws++10::(txt L++tail))),.s (.str [10])] h Q=Q (.tup [(false,[.str (jcy ws)]),(false,[.str (txt L++tail)]),(false,[.bool true])]) h:=fun h Q=>jam (fr.lib _ _ _ _ (j0r (h:=h) c1.n hl))
  rw[jah]
  unfold jhf
  simp(disch:=first|omega|rfl) only[go_sem,j6t,e1]
  unfold jo0
  simp(disch:=first|omega|rfl) only[go_sem,i1]
  refine WC.imp (c1.k p h k) ?_
  rintro _ h2 ⟨rfl,k2,low2,nx2⟩
  have ok2:=k2.ok
  obtain⟨a,b,cc,n1,n2,n3,g1,g2,g3,g4,g5,g6⟩:=k2.ex
  obtain⟨h3,e3,k3,nx3,q3⟩:=PtS.lay (s:=s1) ok2 k2.p1 g2 g3 g4 g5 g6 (ln+1)
  have ek:(ln:Int)+1=((ln+1:Nat):Int):=oa
  have p1:=k.p1
  unfold j56
  simp(disch:=first|omega|rfl) only[go_sem,g1,jae,ek,e3]
  refine qeq f c2 k3 (by simp at hl ⊢;omega) oa (fun n hn=>(q3 n oa).trans ((low2 n hn).trans (low n hn))) (fun h' y6 y7 y8 y10 y11 kk ll=>hQ h' y6 y7 y8 y10 y11 (by rw[f0l,Nat.add_comm L.length 1,←f1p];exact kk) ll)
end
def qkj:Scr:=⟨0,0,0,0,[],⟨[],[]⟩⟩
def z7:List SV:=[.int .i64 0,.int .i64 0,.nilSlice,.nilSlice,.int .i64 0,.int .i64 0,.nilSlice]
def rdE (n e:Nat):AV:=.tup [(true,z7),(false,[si n]),(false,[si e])]
def rdT:IC:=.seq (qr [qM 9,qN,qG 7,qL,qQ 5 (.bin .lt qa (qC 3))] (.cond (.g 5) (.seq jxe .ret) .skip)) j57
section
variable {F:Fns} {st fr:List AV} {es:List Ent} {h h2:Hp} {dst:Option Nat} {l:List (IOper×Option (List Nat))} {Q:Ex->St->Prop}
theorem jhi {n:Nat} {ox oy:Od} {js:List Nat} {b o:Nat} {v:AV} (k:Ok h) (k2:Ok h2) (hx:ev st fr ox=some (.s (.ptr b o))) (hs:sel es js []=some []) (hu:jf0 es js b=true) {c:AB} (hb:h.get b=some c) (ha:jep st fr h (.store n ox oy)=some (v,h2)) :
 WD F ((.mk dst (.a (.store n ox oy)) none,some js)::l) st es fr h Q=WD F l (v::st) (.mk [(b,Nat.succ b),(h.next,h2.next)] none::es) (jc0 fr dst v) h2 Q:=by
 rw[jy1 (x:=some (DR.mk v h2 (.mk [(b,Nat.succ b),(h.next,h2.next)] none))) (fun cl=>?_)]
 .exact jco
 .cases h with
  | mk n1 t lo hid =>
  cases h2 with
  | mk n2 t2 lo2 hid2 =>
  obtain rfl:hid=[]:=k.hid
  obtain rfl:lo=0:=k.lo
  obtain rfl:hid2=[]:=k2.hid
  obtain rfl:lo2=0:=k2.lo
  have hc:jbx st fr (.a (.store n ox oy))=.app b:=by
   show js0 (ob (ev st fr ox) (fun v=>jt6 v (fun b _=>some b))) Cls.app=_
   rw[hx];rfl
  have hi:iop cl st fr (.mk n1 t 0 []) (.a (.store n ox oy))=some (v,.mk n2 t2 0 []):=(jh6 (cl:=cl) rfl).trans ha
  show ob (sel es js []) (fun hid'=>Cls.casesOn (motive:=fun _=>Option DR) (jbx st fr (.a (.store n ox oy))) _ _ (fun b=>oif (jf0 es js b) (oif (Nat.ble 0 b) (ob (Hp.get (.mk n1 t 0 hid') b) (fun _=>jl7 cl st fr n1 t 0 0 [] hid' (.a (.store n ox oy)) (fun n'=>.mk [(b,Nat.succ b),(n1,n')] none))) none) none) _ _)=_
  rw[hs]
  show Cls.casesOn (motive:=fun _=>Option DR) (jbx st fr (.a (.store n ox oy))) _ _ (fun b=>oif (jf0 es js b) (oif (Nat.ble 0 b) (ob (Hp.get (.mk n1 t 0 []) b) (fun _=>jl7 cl st fr n1 t 0 0 [] [] (.a (.store n ox oy)) (fun n'=>.mk [(b,Nat.succ b),(n1,n')] none))) none) none) _ _=_
  rw[hc]
  show oif (jf0 es js b) (oif (Nat.ble 0 b) (ob (Hp.get (.mk n1 t 0 []) b) (fun _=>ob (iop cl st fr (.mk n1 t 0 []) (.a (.store n ox oy))) _)) none) none=_
  rw[hu,hb,hi]
  cases b<;>rfl
end
theorem j29 {a b:Nat} {i:List (Nat×Nat)} {es:List Ent} (h:a≠b):jf0 (.mk i (some [a])::es) [0] b=true:=by
 show oif (oif (Nat.beq a b) false true) true false=true
 have:Nat.beq a b=false:=by
  cases e:Nat.beq a b with
  | false=>rfl
  | true=>exact absurd (f0i e) h
 rw[this];rfl
section
variable {F:Fns} {h:Hp}
theorem qer (f:TkF F) (ok:Ok h) {l:List UInt8} (hl:l.length<=60000) {R:AV->Hp->Prop}
 (hQ:∀ h2 x13,PtS (h.next+1) 0 h2 qkj 0->h2.get h.next=some (.arr z7 34)->W (FR F) (.seq (.block 0 (.loop jhf)) rdT) (.mk [.s (.str l),vi 0,vi 0,.undef,.undef,.undef,.undef,.undef,.undef,.s (.ptr (h.next+1) 0),.undef,.undef,.s (.ptr h.next 0),x13] h2) (jqh [(.cell 12 7 true),(.tmp 2),(.tmp 1)] R)) :
 WC (FR F) 7 [.s (.str l)] h R:=by
 have fr:=f.upR
 refine ja3 (fr.x _ rfl _ _) ((congrFun fr.t _).trans qv8) rfl ?_
 show W (FR F) j28 (.mk ([.s (.str l)]++jdt 13) h) _
 have pp:=ok.pos
 obtain⟨hA,eA,okA,nA,xA,gA⟩:=jeb ok z7 34
 obtain⟨hB,eB,okB,nB,xB,gB⟩:=jeb okA [.int .i64 0,.int .i64 0,.nilSlice,.nilSlice,.int .i64 0,.int .i64 0,.nilSlice,.int .i64 0] 71
 rw[nA] at nB xB gB
 unfold z7 at eA
 have c1:((60000:Int)<(l.length:Int))=False:=eq_false oa
 have k0:PtS (h.next+1) 0 hB qkj 0:=⟨okB,⟨.nilSlice,.nilSlice,.nilSlice,[],[],[],xB,.nil,.nil,.nil,sc,sc⟩,oa⟩
 have sl:=jw0 (l:=l) oa
 unfold j28
 simp(disch:=first|omega|rfl) only[go_sem,jbr,jbs,jbt,jat,jan,jbu,jau,eA,sl,c1]
 unfold j58
 simp(disch:=first|omega|rfl) only[go_sem,eB,nA]
 have q:=hQ hB (.s (.bool false)) k0 ((gB h.next oa).trans xA)
 rw[j1m,jms] at q
 exact q
theorem qes (f:TkF F) {L:List (List (List UInt8))} {s:Scr} (c:Chain F 0 qkj L s) (ok:Ok h) (hl:(txt L).length<=60000) (hL:L.length<3) :
 WC (FR F) 7 [.s (.str (txt L))] h (fun v h'=>v=rdE L.length 5/\Ok h'):=by
 refine qer f ok hl (fun h2 x13 k2 z2=>?_)
 rw[j1m,jms]
 have et:txt L=txt L++[]:=sc
 rw[et]
 have pp:=ok.pos
 refine qeq f c k2 (by simp;omega) oa (fun _ _=>rfl) (fun h3 x6 x7 x8 x10 x11 k3 low=>?_)
 have ok3:=k3.ok
 obtain⟨a,b,cc,n1,n2,n3,g1,g2,g3,g4,g5,g6⟩:=k3.ex
 have z3:=(low h.next oa).trans z2
 rw[f0y] at g1
 have e1:eqO true (some (.s (.str []))) (some (.s (.str [])))=some (.s (.bool false)):=by rw[j6r];rfl
 have c1:((L.length:Int)<3)=True:=eq_true oa
 obtain⟨hA,eA,okA,nA,xA,gA⟩:=jx7 ok3 (b:=h.next) pp (some (.arr z7 34))
 rw[jah]
 unfold jhf
 simp(disch:=first|omega|rfl) only[go_sem,j6t,e1]
 unfold rdT
 unfold z7 at z3 eA xA
 simp(disch:=first|omega|rfl) only[go_sem,g1,c1]
 unfold jxe
 simp(disch:=first|omega|rfl) only[go_sem,g1]
 rw[jhi (v:=.undef) ok3 okA rfl rfl (j29 oa) z3 (by simp(disch:=first|omega|rfl) only[go_sem,z3,eA])]
 simp(disch:=first|omega|rfl) only[go_sem,xA]
 exact⟨rfl,okA⟩
theorem qrk (f:TkF F) {L:List (List (List UInt8))} {s:Scr} (c:Chain F 0 qkj L s) (ok:Ok h) {tail:List UInt8} (hl:(txt L++tail).length<=60000) (hL2:L.length<=90000)
 (hb:(tail≠[]/\(10:UInt8)∉tail)∨∃ l,tail=l++[10]/\(10:UInt8)∉l/\∀ p h,PtS p 0 h s L.length->WC (FR F) 20 [.s (.ptr p 0),.s (.str l)] h (qe6 p h False s L.length false)) :
 WC (FR F) 7 [.s (.str (txt L++tail))] h (fun v h'=>v=rdE L.length 4/\Ok h'):=by
 refine qer f ok hl (fun h2 x13 k2 z2=>?_)
 rw[j1m,jms]
 have fr:=f.upR
 have pp:=ok.pos
 refine qeq f c k2 (by simp at hl ⊢;omega) oa (fun _ _=>rfl) (fun h3 x6 x7 x8 x10 x11 k3 low=>?_)
 have ok3:=k3.ok
 rw[f0y] at k3
 obtain⟨a,b,cc,n1,n2,n3,g1,g2,g3,g4,g5,g6⟩:=k3.ex
 have z3:=(low h.next oa).trans z2
 have e1:eqO true (some (.s (.str tail))) (some (.s (.str [])))=some (.s (.bool true)):=by
  rw[j6r]
  have:(tail == [])=false:=by
   rw[beq_eq_false_iff_ne]
   rcases hb with hb | ⟨l,rfl,_⟩
   .exact hb.1
   .simp
  rw[this];rfl
 rw[jah]
 unfold jhf
 simp(disch:=first|omega|rfl) only[go_sem,j6t,e1]
 rcases hb with⟨_,hb⟩ | ⟨l,rfl,hb,hT⟩
 .have i1:∀ (h:Hp) (Q:AV->Hp->Prop),WC (FR F) 19 [.s (.str tail),.s (.str [10])] h Q=Q (.tup [(false,[.str tail]),(false,[.str []]),(false,[.bool false])]) h:=fun h Q=>jam (fr.lib _ _ _ _ (qep hb (by simp at hl;omega)))
  obtain⟨hA,eA,okA,nA,xA,gA⟩:=jx7 ok3 (b:=h.next) pp (some (.arr z7 34))
  unfold z7 at z3 eA xA
  unfold jo0
  simp(disch:=first|omega|rfl) only[go_sem,i1]
  unfold jxd
  simp(disch:=first|omega|rfl) only[go_sem,g1]
  rw[jhi (v:=.undef) ok3 okA rfl rfl (j29 oa) z3 (by simp(disch:=first|omega|rfl) only[go_sem,z3,eA])]
  simp(disch:=first|omega|rfl) only[go_sem,xA]
  exact⟨rfl,okA⟩
 .have i1:∀ (h:Hp) (Q:AV->Hp->Prop),WC (FR F) 19 [.s (.str (l++[10])),.s (.str [10])] h Q=Q (.tup [(false,[.str l]),(false,[.str []]),(false,[.bool true])]) h:=fun h Q=>jam (fr.lib _ _ _ _ (j0r hb (by simp at hl ⊢;omega)))
  unfold jo0
  simp(disch:=first|omega|rfl) only[go_sem,i1]
  refine WC.imp (hT _ _ k3) ?_
  rintro _ h4 ⟨rfl,_,low4,nx4,ok4,y1,y2,y3,y4,y5,y6,y7,g4⟩
  have z4:=(low4 h.next oa).trans z3
  obtain⟨hA,eA,okA,nA,xA,gA⟩:=jx7 ok4 (b:=h.next) pp (some (.arr z7 34))
  unfold z7 at z4 eA xA
  simp(disch:=first|omega|rfl) only[go_sem]
  unfold jxd
  simp(disch:=first|omega|rfl) only[go_sem,g4]
  rw[jhi (v:=.undef) ok4 okA rfl rfl (j29 oa) z4 (by simp(disch:=first|omega|rfl) only[go_sem,z4,eA])]
  simp(disch:=first|omega|rfl) only[go_sem,xA]
  exact⟨rfl,okA⟩
end
theorem qwf {n:Nat} {w:List UInt8} (h:∃ b∈w,58<=b.toNat):(ito n == w)=false:=by
 rw[beq_eq_false_iff_ne]
 rintro rfl
 obtain⟨b,hb,h2⟩:=h
 rcases jw9 19 n [] b hb with h | h
 .grind
 omega
def qwg (o:Ms.Opd):List (List UInt8):=(if o.late=true then [jsx] else [])++(ito o.value::lw o.limit::(if 4<=o.limit then [ito o.n] else []))
theorem qrl (o:Ms.Opd):j0e o=kw o.kind::qwg o:=rfl
structure OpT (o:Ms.Opd):Prop where
 k:1<=o.kind/\o.kind<=2
 l:1<=o.limit/\o.limit<=5
 v:o.value<1000000000
 n:o.n<1000000000
 z:o.limit<=3->o.n=0
theorem qwh {k:Nat} (hk:1<=k/\k<=5):jl4 (lw k) LWs 0=k:=by
 obtain⟨h1,h2⟩:=hk
 match k,h1,h2 with
 | 1,_,_=>decide
 | 2,_,_=>decide
 | 3,_,_=>decide
 | 4,_,_=>decide
 | 5,_,_=>decide
theorem qwi {k:Nat} (hk:1<=k/\k<=2):jl4 (kw k) KWs 0=k:=by
 obtain⟨h1,h2⟩:=hk
 match k,h1,h2 with
 | 1,_,_=>decide
 | 2,_,_=>decide
theorem qwj:jl4 jex KWs 0=-1:=by decide
theorem qrm {o:Ms.Opd} {r:List (List UInt8)}:je4 (qwg o++r)=(o.late,ito o.value::lw o.limit::((if 4<=o.limit then [ito o.n] else [])++r)):=by
 unfold qwg
 cases o.late with
 | true=>rfl
 | false =>
  show(if (ito o.value == jsx)=true then _ else _)=_
  rw[qwf ⟨108,by decide,by decide⟩];rfl
theorem qwk {o:Ms.Opd} {r:List (List UInt8)} (q:OpT o):j0z o.kind (qwg o++r) false=(jbe o,r,false):=by
 have h1:=q.l
 have e1:jde (ito o.value)=((o.value:Int),false):=jej (by have:=q.v;omega)
 have e2:jl4 (lw o.limit) LWs 0=o.limit:=qwh q.l
 have e3:jde (ito o.n)=((o.n:Int),false):=jej (by have:=q.n;omega)
 unfold j0z
 rw[qrm]
 simp only[List.headD_cons,List.tail_cons,e1,e2]
 have d1:decide ((o.limit:Int)<1)=false:=by grind
 by_cases h4:4<=o.limit
 .rw [if_pos oa,if_pos h4]
  simp only[f1j,f1d,List.headD_cons,List.tail_cons,e3,d1]
  rfl
 .rw [if_neg oa,if_neg h4,d1]
  unfold jbe
  rw[q.z oa];rfl
theorem j6x {r:List (List UInt8)}:∀ {ops:List Ms.Opd} {n:Nat} {os:List (List SV)},(∀ o∈ops,OpT o)->((ops.map j0e).flatten++r).length<=n->∃ m,r.length<=m/\jt3 n os [] ((ops.map j0e).flatten++r) false=jt3 m (os++ops.map jbe) [] r false
 | [],n,os,_,hn=>⟨n,by grind,sc⟩
 | o::ops,n,os,h,hn=>by
  have q:=h o sc
  have e:((o::ops).map j0e).flatten++r=kw o.kind::(qwg o++((ops.map j0e).flatten++r)):=by simp[f01,f03,qrl]
  rw[e] at hn ⊢
  cases n with
  | zero=>grind
  | succ n =>
   rw[f0l,f0f] at hn
   obtain⟨m,h1,h2⟩:=j6x (r:=r) (ops:=ops) (n:=n) (os:=os++[jbe o]) (fun o ho=>h o (by simp[ho])) oa
   refine⟨m,h1,?_⟩
   show(if 0<jl4 (kw o.kind) KWs 0/\([]:List (List SV)).length=0 then _ else _)=_
   have q1:=q.k
   rw[qwi q.k,if_pos ⟨oa,rfl⟩,qwk q,h2]
   simp
theorem j6y:∀ {sps:List (Nat×Nat)} {n:Nat} {os rs:List (List SV)},(∀ r∈sps,r.1<1000000000/\r.2<1000000000)->((sps.map j0x).flatten).length<=n->jt3 n os rs ((sps.map j0x).flatten) false=(os,rs++sps.map jda,[],false)
 | [],0,os,rs,_,_=>by simp[jt3]
 | [],n+1,os,rs,_,_=>by simp[jt3]
 | p::sps,n,os,rs,h,hn=>by
  have e:((p::sps).map j0x).flatten=jex::ito p.1::ito p.2::(sps.map j0x).flatten:=by rfl
  rw[e] at hn ⊢
  cases n with
  | zero=>grind
  | succ n =>
   rw[f0l,f0l,f0l] at hn
   obtain⟨b1,b2⟩:=h p sc
   show(if 0<jl4 jex KWs 0/\rs.length=0 then _ else if (jex == jex)=true then _ else _)=_
   rw[qwj,if_neg oa,if_pos sc]
   simp only[List.headD_cons,List.tail_cons]
   rw[jej oa,jej oa]
   have:=j6y (sps:=sps) (n:=n) (os:=os) (rs:=rs++[jda p]) (fun r hr=>h r (by simp[hr])) oa
   show jt3 n os (rs++[jda p]) _ (false||false)=_
   rw[f2b,this];simp
structure InT (x:Ms.Ins):Prop where
 op:x.op<1000000000
 o:∀ o∈x.ops,OpT o
 s:∀ r∈x.spoils,r.1<1000000000/\r.2<1000000000
theorem qwl {x:Ms.Ins} (q:InT x):inS (ito x.op::((x.ops.map j0e).flatten++(x.spoils.map j0x).flatten)) false=((x.op:Int),x.ops.map jbe,x.spoils.map jda,[],false):=by
 unfold inS
 rw[List.headD_cons,List.tail_cons,jej (by have:=q.op;omega)]
 obtain⟨m,h1,h2⟩:=j6x (r:=(x.spoils.map j0x).flatten)  (n:=(ito x.op::((x.ops.map j0e).flatten++(x.spoils.map j0x).flatten)).length)  q.o sc
 rw[f2b,h2,j6y q.s h1];simp
structure Wg (w:List UInt8):Prop where
 d:Wd w
 k:Wk w
theorem Wg.ito {n:Nat} (hn:n<1000000000000000000):Wg (ito n):=⟨jr9 n,Wk.ito hn⟩
theorem Wg.kw {k:Nat} (hk:1<=k/\k<=2):Wg (kw k):=by
 obtain⟨h1,h2⟩:=hk
 match k,h1,h2 with
 | 1,_,_=>exact⟨⟨by decide,by decide⟩,Wk.of (by rfl) (by decide)⟩
 | 2,_,_=>exact⟨⟨by decide,by decide⟩,Wk.of (by decide) (by decide)⟩
theorem Wg.lw {k:Nat} (hk:1<=k/\k<=5):Wg (lw k):=by
 obtain⟨h1,h2⟩:=hk
 match k,h1,h2 with
 | 1,_,_=>exact⟨⟨by decide,by decide⟩,Wk.of (by rfl) (by decide)⟩
 | 2,_,_=>exact⟨⟨by decide,by decide⟩,Wk.of (by decide) (by decide)⟩
 | 3,_,_=>exact⟨⟨by decide,by decide⟩,Wk.of (by rfl) (by decide)⟩
 | 4,_,_=>exact⟨⟨by decide,by decide⟩,Wk.of ka (by decide)⟩
 | 5,_,_=>exact⟨⟨by decide,by decide⟩,Wk.of ka (by decide)⟩
theorem Wg.late:Wg jsx:=⟨⟨by decide,by decide⟩,Wk.of (by rfl) (by decide)⟩
theorem Wg.spoils:Wg jex:=⟨⟨by decide,by decide⟩,Wk.of (by rfl) (by decide)⟩
theorem Wg.op:Wg wOp:=⟨⟨by decide,by decide⟩,Wk.of (by rfl) (by decide)⟩
theorem Wg.edge:Wg jxb:=⟨⟨by decide,by decide⟩,Wk.of (by rfl) (by decide)⟩
theorem Wg.block:Wg jgd:=⟨⟨by decide,by decide⟩,Wk.of (by rfl) (by decide)⟩
theorem Wg.run:Wg j5z:=⟨⟨by decide,by decide⟩,Wk.of (by rfl) (by decide)⟩
theorem Wg.mach:Wg jdc:=⟨⟨by decide,by decide⟩,Wk.of (by rfl) (by decide)⟩
theorem Wg.vals:Wg jfq:=⟨⟨by decide,by decide⟩,Wk.of (by rfl) (by decide)⟩
theorem Wg.itos {l:List Nat} (h:∀ n∈l,n<1000000000000000000):∀ w∈l.map Ev.ito,Wg w:=fun w hw=>by
 obtain⟨n,hn,rfl⟩:=f1r.1 hw
 exact .ito (h n hn)
theorem Wg.opd {o:Ms.Opd} (q:OpT o):∀ w∈j0e o,Wg w:=fun w hw=>by
 unfold j0e at hw
 simp only[f0e,f0d] at hw
 rcases hw with rfl | hw | rfl | rfl | hw
 .exact .kw q.k
 .split at hw
  .obtain rfl:=f0r.1 hw;exact .late
  grind
 .exact .ito (by have:=q.v;omega)
 .exact .lw q.l
 .split at hw
  .obtain rfl:=f0r.1 hw;exact .ito (by have:=q.n;omega)
  grind
theorem Wg.ins {x:Ms.Ins} (q:InT x):∀ w∈j0y x,Wg w:=fun w hw=>by
 unfold j0y at hw
 simp only[f0e,f0d,List.mem_flatten,f1r] at hw
 rcases hw with rfl | rfl | ⟨_,⟨o,ho,rfl⟩,hw⟩ | ⟨_,⟨r,hr,rfl⟩,hw⟩
 .exact .op
 .exact .ito (by have:=q.op;omega)
 .exact .opd (q.o o ho) w hw
 .have:=q.s r hr
  simp only[j0x,f0e,f1k,or_false] at hw
  rcases hw with rfl | rfl | rfl
  .exact .spoils
  .exact .ito oa
  .exact .ito oa
theorem jlw {ws:List (List UInt8)}:ws.length<=(jcy ws).length+1:=by
 have h:∀ l ,l.length<=(jdk l).length:=fun l=>by
  induction l with
  | nil=>simp
  | cons a l ih=>show l.length+1<=(32::a++jdk l).length;grind
 cases ws with
 | nil=>simp
 | cons a l=>show l.length+1<=(a++jdk l).length+1;grind
def sb (s:Scr) (l:List Ms.Blk):Scr:={ s with f:={ s.f with blocks:=l } }
structure BkT (b:Ms.Blk):Prop where
 p:∀ n∈b.params,n<1000000000
 i:∀ x∈b.instrs,InT x
 e:∀ e∈b.edges,e.block<1000000000/\∀ n∈e.args,n<1000000000
structure ScT (s:Scr):Prop where
 m:s.m1<1000000000/\s.m2<1000000000/\s.seed<1000000000000/\s.steps<1000000000000
 j:∀ n∈s.junk,n<1000000000000
 v:∀ n∈s.f.values,n<1000000000
 b:∀ b∈s.f.blocks,BkT b
section
variable {F:Fns} {s:Scr} {ln:Nat}
theorem qe6.takR {p:Nat} {h:Hp} {G:Prop} {b:Bool} {s:Scr} (hG:G) (hb:b=true) {v:AV} {h':Hp} (k:qe6 p h G s ln b v h'):qwd p h s ln v h':=by
 obtain⟨rfl,k1,k2,k3,_⟩:=k
 subst hb
 exact⟨rfl,k1 hG,k2,k3⟩
theorem noW {ws:List (List UInt8)} (h:∀ w∈ws,Wg w):(10:UInt8)∉jcy ws:=qhm fun x hx=>(h x hx).d.2
theorem j6z (f:TkF F) {a b:Nat} (ha:a<1000000000) (hb:b<1000000000):LnK F 0 s [jdc,ito a,ito b] { s with m1:=a,m2:=b } :=
 ⟨noW (fun w hw=>by
  simp only[f0e,f1k,or_false] at hw
  rcases hw with rfl | rfl | rfl
  .exact .mach
  .exact .ito oa
  .exact .ito oa),fun p h k=>qht f k oa oa⟩
theorem qet (f:TkF F) {a b:Nat} {l:List Nat} (ha:a<1000000000000) (hb:b<1000000000000) (hl:∀ n∈l,n<1000000000000) (hj:(jcy (j5z::ito a::ito b::l.map ito)).length<=60000):LnK F 1 s (j5z::ito a::ito b::l.map ito) { s with seed:=a,steps:=b,junk:=l }:=by
 have hl':∀ n∈l,n<1000000000000000000:=fun n hn=>by grind
 refine⟨noW (fun w hw=>?_),fun p h k=>?_⟩
 .simp only[f0e] at hw
  rcases hw with rfl | rfl | rfl | hw
  .exact .run
  .exact .ito oa
  .exact .ito oa
  grind[Wg.itos]
 .have:=jlw (ws:=j5z::ito a::ito b::l.map ito)
  simp only[f0l,f09] at this
  exact qrj f rfl k oa oa hl' oa oa
theorem qhw (f:TkF F) {l:List Nat} (hl:∀ n∈l,n<1000000000) (hj:(jcy (jfq::l.map ito)).length<=60000):LnK F 2 s (jfq::l.map ito) { s with f:={ s.f with values:=l } }:=by
 have hl':∀ n∈l,n<1000000000000000000:=fun n hn=>by grind
 refine⟨noW fun w hw=>?_,fun p h k=>?_⟩
 .simp only[f0e] at hw
  rcases hw with rfl | hw
  .exact .vals
  grind[Wg.itos]
 .have:=jlw (ws:=jfq::l.map ito)
  simp only[f0l,f09] at this
  exact qhu f rfl k hl' oa oa
theorem qrn (f:TkF F) (h3:3<=ln) {L:List Ms.Blk} (hL:L.length<=10000) {l:List Nat} (hl:∀ n∈l,n<1000000000) (hj:(jcy (jgd::l.map ito)).length<=60000):LnK F ln (sb s L) (jgd::l.map ito) (sb s (L++[⟨l,[],[]⟩])):=by
 have hl':∀ n∈l,n<1000000000000000000:=fun n hn=>by grind
 have hw:∀ w∈jgd::l.map ito,Wg w:=fun w hw=>by
  simp only[f0e] at hw
  rcases hw with rfl | hw
  .exact .block
  grind[Wg.itos]
 refine⟨noW hw,fun p h k=>?_⟩
 have:=jlw (ws:=jgd::l.map ito)
 simp only[f0l,f09] at this
 refine WC.imp (qeo f h3 k (ws:=l.map ito) (l:=l) (jfa (fun x hx=>(hw x hx).d)) oa (fun w h=>(hw w (by simp[h])).k) (by simp;omega) hL) (fun v h' q=>q.takR ?_ ?_)
 .rw [jg1 hl']
 grind[jg1]
theorem j60 {α:Type} {l:List α} {a b:α}:(l++[a]).set l.length b=l++[b]:=sc
theorem qwm (f:TkF F) (h3:3<=ln) {L:List Ms.Blk} (hL:L.length<10000) {b:Ms.Blk} (hb:b.instrs.length<=10000) (he:b.edges=[]) {x:Ms.Ins} (q:InT x) (hj:(jcy (j0y x)).length<=60000):LnK F ln (sb s (L++[b])) (j0y x) (sb s (L++[{ b with instrs:=b.instrs++[x] }])):=by
 refine⟨noW (Wg.ins q),fun p h k=>?_⟩
 have:=jlw (ws:=j0y x)
 have e:j0y x=wOp::(ito x.op::((x.ops.map j0e).flatten++(x.spoils.map j0x).flatten)):=rfl
 have hn:(ito x.op::((x.ops.map j0e).flatten++(x.spoils.map j0x).flatten)).length+1=(j0y x).length:=rfl
 have t:=qki f h3 k (ln0:=jcy (j0y x)) (ws:=ito x.op::((x.ops.map j0e).flatten++(x.spoils.map j0x).flatten)) (i:=L.length) (blk:=b) (jfa (fun w hw=>(Wg.ins q w hw).d)) oa (fun w hw=>(Wg.ins q w (by grind)).k) oa (by simp[sb]) (by simp[sb]) (by simp[sb];omega) hb he x
 refine WC.imp t (fun v h' q2=>?_)
 have e2:(sb s (L++[b])).f.blocks.set L.length { b with instrs:=b.instrs++[x] }=L++[{ b with instrs:=b.instrs++[x] }]:=j60
 rw[e2] at q2
 exact q2.takR (by grind[qwl]) (by rw[qwl q];rfl)
theorem qhx (f:TkF F) (h3:3<=ln) {L:List Ms.Blk} (hL:L.length<10000) {b:Ms.Blk} (hb:b.edges.length<=10000) {e:Ms.Edg} (q1:e.block<1000000000) (q2:∀ n∈e.args,n<1000000000) (hj:(jcy (j26 e)).length<=60000):LnK F ln (sb s (L++[b])) (j26 e) (sb s (L++[{ b with edges:=b.edges++[e] }])):=by
 have hl':∀ n∈e.args,n<1000000000000000000:=fun n hn=>by grind
 have hw:∀ w∈j26 e,Wg w:=fun w hw=>by
  unfold j26 at hw
  simp only[f0e] at hw
  rcases hw with rfl | rfl | hw
  .exact .edge
  .exact .ito oa
  .exact Wg.itos hl' w hw
 refine⟨noW hw,fun p h k=>?_⟩
 have:=jlw (ws:=j26 e)
 have ee:j26 e=jxb::(ito e.block::e.args.map ito):=rfl
 have hn:(ito e.block::e.args.map ito).length+1=(j26 e).length:=rfl
 have t:=j6v f h3 k (ln0:=jcy (j26 e)) (ws:=ito e.block::e.args.map ito) (i:=L.length) (blk:=b) (jfa (fun w h=>(hw w h).d)) oa (fun w h=>(hw w (by rw[ee];exact f02 _ h)).k) oa (by simp[sb]) (by simp[sb]) (by simp[sb];omega) hb e
 refine WC.imp t (fun v h' q2=>?_)
 have e2:(sb s (L++[b])).f.blocks.set L.length { b with edges:=b.edges++[e] }=L++[{ b with edges:=b.edges++[e] }]:=j60
 rw[e2] at q2
 have r1:jde ((ito e.block::e.args.map ito).headD [])=((e.block:Int),false):=jej oa
 have r2:jg0 (ito e.block::e.args.map ito).tail (false||(jde ((ito e.block::e.args.map ito).headD [])).2)=(e.args.map (fun(n:Nat)=>(n:Int)),[],false):=by rw[r1];exact jg1 hl'
 exact q2.takR (by rw[r2];exact⟨by rw[r1],rfl⟩) (by rw[r2];rfl)
theorem qkk (f:TkF F) {L:List Ms.Blk} (hL:L.length<10000) {b:Ms.Blk} (he:b.edges=[]):∀ {xs:List Ms.Ins} {ln:Nat} {d:List Ms.Ins},3<=ln->d.length+xs.length<=10000->(∀ x∈xs,InT x)->(∀ x∈xs,(jcy (j0y x)).length<=60000)->Chain F ln (sb s (L++[{ b with instrs:=d }])) (xs.map j0y) (sb s (L++[{ b with instrs:=d++xs }]))
 | [],ln,d,_,_,_,_=>by rw[f08];exact .nil
 | x::xs,ln,d,h3,hl,hq,hj=>by
  have c:=qkk f hL he (xs:=xs) (ln:=ln+1) (d:=d++[x]) oa (by grind) (fun y hy=>hq y (by grind)) (fun y hy=>hj y (by grind))
  rw[f0n] at c
  exact .cons (qwm f h3 hL (b:={ b with instrs:=d }) (by grind) he (hq x sc) (hj x sc)) c
theorem qkl (f:TkF F) {L:List Ms.Blk} (hL:L.length<10000) {b:Ms.Blk}:∀ {xs:List Ms.Edg} {ln:Nat} {d:List Ms.Edg},3<=ln->d.length+xs.length<=10000->(∀ e∈xs,e.block<1000000000/\∀ n∈e.args,n<1000000000)->(∀ x∈xs,(jcy (j26 x)).length<=60000)->Chain F ln (sb s (L++[{ b with edges:=d }])) (xs.map j26) (sb s (L++[{ b with edges:=d++xs }]))
 | [],ln,d,_,_,_,_=>by rw[f08];exact .nil
 | x::xs,ln,d,h3,hl,hq,hj=>by
  rw[f0l] at hl
  have c:=qkl f hL (b:=b) (xs:=xs) (ln:=ln+1) (d:=d++[x]) oa (by grind) (fun y hy=>hq y (by grind)) (fun y hy=>hj y (by grind))
  rw[f0n] at c
  exact .cons (qhx f h3 hL (b:={ b with edges:=d }) (by grind) (hq x sc).1 (hq x sc).2 (hj x sc)) c
theorem qwn (f:TkF F) {L:List Ms.Blk} (hL:L.length<10000) {b:Ms.Blk} (q:BkT b) {ln:Nat} (h3:3<=ln) (hi:b.instrs.length<=10000) (he:b.edges.length<=10000) (hj:∀ ws∈j50 b,(jcy ws).length<=60000):Chain F ln (sb s L) (j50 b) (sb s (L++[b])):=by
 have c1:=qkk (s:=s) f hL (b:=(⟨b.params,[],[]⟩:Ms.Blk)) rfl (xs:=b.instrs) (ln:=ln+1) (d:=[]) oa (by grind) q.i (fun x hx=>hj _ (by unfold j50;grind))
 have c2:=qkl (s:=s) f hL (b:=(⟨b.params,b.instrs,[]⟩:Ms.Blk)) (xs:=b.edges) (ln:=ln+1+(b.instrs.map j0y).length) (d:=[]) oa (by grind) q.e (fun x hx=>hj _ (by unfold j50;grind))
 rw[f1d] at c1 c2
 exact .cons (qrn f h3 oa q.p (hj _ (by unfold j50;simp))) (c1.app c2)
theorem qeu (f:TkF F):∀ {bs:List Ms.Blk} {L:List Ms.Blk} {ln:Nat},L.length+bs.length<10000->(∀ b∈bs,BkT b)->3<=ln->(∀ b∈bs,b.instrs.length<=10000/\b.edges.length<=10000)->(∀ ws∈(bs.map j50).flatten,(jcy ws).length<=60000)->Chain F ln (sb s L) ((bs.map j50).flatten) (sb s (L++bs))
 | [],L,ln,_,_,_,_,_=>by rw[f08];exact .nil
 | b::bs,L,ln,hL,q,h3,hl,hj=>by
  rw[f0l] at hL
  have c:=qeu f (bs:=bs) (L:=L++[b]) (ln:=ln+(j50 b).length) (by grind) (fun x hx=>q x (by grind)) oa (fun x hx=>hl x (by grind)) (fun ws hw=>hj ws (by grind))
  rw[f0n] at c
  rw[f01,f03]
  have hb:=hl b sc
  exact(qwn f oa (q b sc) h3 hb.1 hb.2 (fun ws hw=>hj ws (by rw[f01,f03];exact f07 _ hw))).app c
theorem qro {L:List (List (List UInt8))} {ws:List (List UInt8)} (h:ws∈L):(jcy ws).length<=(txt L).length:=by
 induction L with
 | nil=>grind
 | cons a L ih =>
  grind[j6w,f0f,f0l,f0e]
theorem qwo (f:TkF F) {s:Scr} (q:ScT s) (hl:(j0w s).length<=60000) (hb:s.f.blocks.length<10000) (hb2:∀ b∈s.f.blocks,b.instrs.length<=10000/\b.edges.length<=10000):Chain F 0 qkj (j51 s) s:=by
 rw[←qeb] at hl
 obtain⟨q1,q2,q3,q4⟩:=q.m
 have hm:∀ ws∈j51 s,(jcy ws).length<=60000:=fun ws hw=>f0x (qro hw) hl
 have c:=qeu (F:=F) (s:=s) f (bs:=s.f.blocks) (L:=[]) (ln:=3) (by grind) q.b oa hb2 (fun ws hw=>hm ws (by unfold j51;grind))
 exact .cons (j6z f q1 q2) (.cons (qet f q3 q4 q.j (hm _ (by unfold j51 qhn;simp))) (.cons (qhw f q.v (hm _ (by unfold j51 qhn;simp))) c))
end
set_option maxHeartbeats 4000000
def qwp (s:Scr) (xj:SV):List SV:=[si s.m1,si s.m2,jag jaz s.f.values,jag ja6 s.f.blocks,si s.seed,si s.steps,xj]
theorem qkm {F:Fns} {l:List Nat} {xj:SV} (lj:LstE jaz 1 xj l) (hl:l.length<=64) (hj:∀ n∈l,n<=1073741824) {x0 x1 x8 x9 x10 x11 x12:AV} {Q:Ex->St->Prop} :
 ∀ (d i:Nat) (_:i+d=l.length) {hi:Hp} (_:Ok hi) {x2 x3 x5:AV}
  (hQ:∀ x2 x3 x5,Q (.exit 0) (.mk [x0,x1,x2,x3,.s xj,x5,vi l.length,vi l.length,x8,x9,x10,x11,x12] hi)),
  W F jw1.loop (.mk [x0,x1,x2,x3,.s xj,x5,vi l.length,vi i,x8,x9,x10,x11,x12] hi) Q
 | 0,i,hd,hi,ok,x2,x3,x5,hQ=>by
  obtain rfl:i=l.length:=oa
  rw[jah]
  unfold jw1
  simp(disch:=first|omega|rfl) only[go_sem,f0s]
  exact hQ _ _ _
 | d+1,i,hd,hi,ok,x2,x3,x5,hQ=>by
  have hil:i<l.length:=oa
  have hlt:(i:Int)<(l.length:Int):=oa
  have hss:(i:Int)+1=((i+1:Nat):Int):=oa
  obtain⟨n,hn⟩:∃ n,l[i]?=some n:=⟨_,f0b hil⟩
  have hix:=lj.at_ hn
  have hn2:=hj n (f0c hn)
  have c1:((n:Int)<0)=False:=eq_false oa
  have c2:(1073741824<(n:Int))=False:=eq_false oa
  rw[jah]
  unfold jw1 qdv
  simp(disch:=first|omega|rfl) only[go_sem,jae,eq_true hlt,hix,jaz,c1,c2,hss]
  exact qkm lj hl hj d (i+1) oa ok hQ
theorem qrp {F:Fns} (hX:∀ vs h,jdg F 10 vs h=none) (hT:qe3 F=T) {h:Hp} (ok:Ok h) {s:Scr} {xj:SV} (lq:LstE jaz 1 xj s.junk) (hK:∀ h Q,WC F 23 [.agg [jag jaz s.f.values,jag ja6 s.f.blocks],.agg [si s.m1,si s.m2]] h Q=Q (vi 0) h) (h1:s.seed<=1073741824) (h2:s.steps<=5000) (h3:s.junk.length<=64) (h4:∀ n∈s.junk,n<=1073741824) :
 WC F 10 [.agg (qwp s xj)] h (fun v h'=>∃ d,jhr true h' d v=some (vi 0)):=by
 refine ja3 (hX _ _) ((congrFun hT _).trans q20) rfl ?_
 unfold qj0 qwp
 obtain⟨hA,eA,okA,nA,xA,gA⟩:=jeb ok [si s.m1,si s.m2,jag jaz s.f.values,jag ja6 s.f.blocks,si s.seed,si s.steps,xj] 34
 have lj:=lq.len
 have c1:((s.seed:Int)<0)=False:=eq_false oa
 have c2:(1073741824<(s.seed:Int))=False:=eq_false oa
 have c3:((s.steps:Int)<0)=False:=eq_false oa
 have c4:(5000<(s.steps:Int))=False:=eq_false oa
 have c5:(64<(s.junk.length:Int))=False:=eq_false oa
 simp(disch:=first|omega|rfl) only[go_sem,eA,xA,hK]
 unfold qdy
 simp(disch:=first|omega|rfl) only[go_sem,xA,c1,c2,c3,c4]
 unfold qdx
 simp(disch:=first|omega|rfl) only[go_sem,xA,lj,c5]
 unfold qdw
 simp(disch:=first|omega|rfl) only[go_sem,xA,lj]
 refine qkm lq h3 h4 s.junk.length 0 oa okA (fun x2 x3 x5=>?_)
 simp(disch:=first|omega|rfl) only[go_sem]
 exact⟨1,rfl⟩
def SK1 (f:FuncId):Bool:=Nat.beq f 10
def FK1:Fns:=PX SK1 F11
def FT0:Fns:=qhg FK1
def SSh (f:FuncId):Bool:=Nat.beq f 5
def FT1:Fns:=PX SSh FT0
theorem q7s {A:Nat->Int}:Env Tryz.prog A tys FT1:=jhm (qdt (jhm q2x))
def Lf (f:FuncId):Bool:=Nat.beq f 19||(Nat.beq f 32||(Nat.beq f 54||(Nat.beq f 13||(Nat.beq f 24||Nat.beq f 16))))
theorem jx4 {f:FuncId} (hf:Lf f=false) {vs:List AV} {h:Hp}:jsi f vs h=none:=by
 unfold Lf at hf
 simp only[Bool.or_eq_false_iff] at hf
 unfold jsi
 rw[hf.1,hf.2.1,hf.2.2.1,hf.2.2.2.1,hf.2.2.2.2.1,hf.2.2.2.2.2];rfl
theorem jsg {F:Fns} {f:FuncId} {vs:List AV} {h:Hp} (hl:jsi f vs h=none):jdg (qhg F) f vs h=jdg F f vs h:=by
 cases F with
 | mk T X =>
  show Option.rec (motive:=fun _=>R) (X f vs h) (fun r=>some r) (jsi f vs h)=X f vs h
  rw[hl]
theorem j0s {F:Fns} {f:FuncId} {vs:List AV} {h:Hp} {r:AV×Hp} (hl:jsi f vs h=some r):jdg (qhg F) f vs h=some r:=by
 cases F with
 | mk T X =>
  show Option.rec (motive:=fun _=>R) (X f vs h) (fun r=>some r) (jsi f vs h)=some r
  rw[hl]
theorem q29 {g:FuncId} (h:Bf g=true) {vs:List AV} {h0:Hp}:jdg FT0 g vs h0=none:=by
 unfold Bf at h
 simp only[f2j] at h
 rcases h with h | h | h | h | h | h<;>(have e:=f0i h;subst e;exact(jsg (jx4 rfl)).trans ((ja8 rfl).trans (qvu rfl rfl rfl rfl rfl rfl rfl rfl rfl rfl rfl)))
theorem blT:BlF FT0:=⟨fun g hg vs h=>q29 hg,rfl,fun f vs h r hr=>j0s hr⟩
section
variable {h:Hp} {m:Nat×Nat} {f:Fc} {s:List Bool} {Q:AV->Hp->Prop}
structure ScG (f:Fc) (m:Nat×Nat) (s:List Bool) (x:Scr):Prop where
 o:FlOk m f s
 m1:2<=m.1/\m.1<=10
 m2:2<=m.2/\m.2<=10
 e1:x.m1=m.1
 e2:x.m2=m.2
 ef:x.f=f
 sd:x.seed<=1073741824
 st:x.steps<=5000
 j1:x.junk.length<=64
 j2:∀ n∈x.junk,n<=1073741824
theorem qrq {x:Scr} (k:ScG f m s x):WC FT0 10 [.agg (jw7 x)] h Q=Q (vi 0) h :=
 jam ((jsg (jx4 rfl)).trans (jbi rfl (by unfold jw7;simp only[jay,ja9,jbj,jen,jbb,jbk,jbg,jcg,jcr,jbm,if_true]) (qrp (fun vs h=>qvu rfl rfl rfl rfl rfl rfl rfl rfl rfl rfl rfl) rfl jev (s:=x) (LstE.enc (fun _=>rfl)) (fun h Q=>by rw[k.ef,k.e1,k.e2];exact qhd k.o k.m1 k.m2) k.sd k.st k.j1 k.j2)))
theorem ScG.tks {x:Scr} (k:ScG f m s x):TkS x:=by
 have kc:=k.o.k
 have hnv:=kc.nv
 have hnb:=kc.nb
 have hm1:=k.m1
 have hm2:=k.m2
 have hg:∀ c,g2 m c<=10:=fun c=>by unfold g2;split<;>omega
 have ef:=k.ef
 subst ef
 refine⟨by rw[k.e1];omega,by rw[k.e2];omega,by have:=k.sd;omega,by have:=k.st;omega,by have:=k.j1;omega,fun n hn=>by have:=k.j2 n hn;omega,oa,fun n hn=>by have:=kc.cls n hn;omega,oa,fun b hb=>?_⟩
 obtain⟨h1,h2,h3⟩:=kc.blk b hb
 refine⟨oa,fun v h=>by have:=kc.prm b hb v h;omega,oa,fun y hy=>?_,oa,fun e he=>?_⟩
 .have i:=kc.ins b hb y hy
  have h4:=i.op
  have h5:=i.nops
  have h6:=i.nsp
  refine⟨oa,oa,oa,fun o ho=>?_,fun r hr=>?_⟩
  .have q:=i.opd o ho
   have h7:=q.lim
   have h8:=q.val
   refine⟨by have:=q.kind;omega,oa,oa,?_⟩
   by_cases e:o.limit=5
   .obtain ⟨u,hu,_⟩:=i.reu o ho e
    have:=(f0t.1 hu).1
    omega
   .by_cases e2:o.limit=4
    .have:=q.fix e2
     have:=hg (cl x.f.values o.value)
     omega
    .have:=q.zero oa
     omega
  .obtain ⟨h7,h8⟩:=i.spo r hr
   have:=hg r.1
   exact⟨oa,oa⟩
 .obtain ⟨_,h4,t,h5,h6,_⟩:=kc.edg b hb e he
  have h7:=(f0t.1 h5).1
  have h8:=congrArg List.length h6
  simp only[f09] at h8
  have h9:=(kc.blk t (f0c h5)).1
  exact⟨oa,oa,fun v hv'=>by have:=h4 v hv';omega⟩
def q3y (x:Scr):AV:=.tup [(false,[.str (j0w x)]),(false,[si 0])]
structure ScF (F:Fns):Prop where
 x:∀ vs h,jdg F 6 vs h=none
 t:qe3 F=T
 m:∀ {a b:Int},In6 a->In6 b->∀ {h:Hp} {Q:AV->Hp->Prop},WC F 17 [vi a,vi b] h Q=Q (.agg (qtv (jnh a b))) h
 f:∀ {m:Nat×Nat} {l:List Pc},(2<=m.1/\m.1<=10)->(2<=m.2/\m.2<=10)->(∀ q∈l,Pin q)->∀ {xl:SV},LstE jb9 7 xl l->∀ {h:Hp} {Q:AV->Hp->Prop},WC F 18 [.agg [si m.1,si m.2],.s xl] h Q=Q (.agg (qtp (jea m l))) h
 p:∀ {n k:Int},-9223372036854775808<=n->n<=9223372036854775807->0<k->k<=9223372036854775807->∀ {h:Hp} {Q:AV->Hp->Prop},WC F 8 [vi n,vi k] h Q=Q (vi (pick n k)) h
theorem qhy {g:FuncId} (h1:SSh g=false) (h2:SK1 g=false) (h3:Lf g=false) {vs:List AV}:jdg FT1 g vs h=jdg F11 g vs h:=(ja8 h1).trans ((jsg (jx4 h3)).trans (ja8 h2))
theorem scT:ScF FT1 where
 x:=fun vs h=>(qhy rfl rfl rfl).trans (qvu rfl rfl rfl rfl rfl rfl rfl rfl rfl rfl rfl)
 t:=rfl
 m:=fun {a b} ha hb {h Q}=>jam ((qhy rfl rfl rfl).trans ((ja8 rfl).trans ((qe5 rfl rfl).trans ((ja8 rfl).trans ((qr8 rfl rfl rfl rfl).trans (jtv ha hb))))))
 f:=fun {m l} m1 m2 pin {xl} lx {h Q}=>jam ((qhy rfl rfl rfl).trans ((ja8 rfl).trans ((qe5 rfl rfl).trans ((ja8 rfl).trans ((qr8 rfl rfl rfl rfl).trans (qbu m1 m2 pin lx))))))
 p:=fun {n k} h1 h2 hm hm2 {h Q}=>jam ((qhy rfl rfl rfl).trans ((ja8 rfl).trans ((qe5 rfl rfl).trans ((ja8 rfl).trans ((qr8 rfl rfl rfl rfl).trans ((ja8 rfl).trans ((jhs.pk _ _).trans (jrj h1 h2 hm hm2))))))))
end
theorem j3a {F:Fns} {st fr:List AV} {es:List Ent} {h:Hp} {dst:Option Nat} {l:List (IOper×Option (List Nat))} {Q:Ex->St->Prop} {e:TypeId} {z:List SV} {js:List Nat} {hd:List (Nat×Nat)} (k:Ok h) (hs:sel es js []=some hd) (hh:jaq hd h.next=false) :
 WD F ((.mk dst (.a (.new e z)) none,some js)::l) st es fr h Q=WD F l (.s (.ptr h.next 0)::st) (.mk [(h.next,Nat.succ h.next)] (some [])::es) (jc0 fr dst (.s (.ptr h.next 0))) (h.push (.arr z e)) Q:=by
 rw[jy1 (x:=some (DR.mk (.s (.ptr h.next 0)) (h.push (.arr z e)) (.mk [(h.next,Nat.succ h.next)] (some [])))) (fun cl=>?_)]
 .exact jco
 .cases h with
  | mk n1 t lo hid =>
  obtain rfl:hid=[]:=k.hid
  obtain rfl:lo=0:=k.lo
  have hh':jaq hd n1=false:=hh
  have hi:iop cl st fr (.mk n1 t n1 hd) (.a (.new e z))=some (.s (.ptr n1 0),.mk (Nat.succ n1) (t.put (Nat.succ n1) n1 (some (.arr z e))) n1 hd):=by
   show oif (jaq hd n1) none (some (AV.s (.ptr n1 0),Hp.mk (Nat.succ n1) (t.put (Nat.succ n1) n1 (some (.arr z e))) n1 hd))=_
   rw[hh'];rfl
  show ob (sel es js []) (fun hid'=>jl7 cl st fr n1 t 0 n1 [] hid' (.a (.new e z)) (fun n'=>.mk [(n1,n')] (some [])))=_
  rw[hs]
  show ob (iop cl st fr (.mk n1 t n1 hd) (.a (.new e z))) _=_
  rw[hi]
  rfl
theorem qrr {F:Fns} (fs:ScF F) {h:Hp} (ok:Ok h) {a b:Int} {l:List Pc} (ha:In6 a) (hb:In6 b) (pin:∀ q∈l,Pin q) {xl:SV} (lx:LstE jb9 7 xl l):WC F 6 [vi a,vi b,.s xl,vi 1,vi 1,.s .nilSlice] h (fun v h'=>v=.agg (jw7 ⟨(jnh a b).1,(jnh a b).2,1,1,[],jea (jnh a b) l⟩)/\Ok h'):=by
 refine ja3 (fs.x _ _) ((congrFun fs.t _).trans q21) rfl ?_
 unfold qj1
 have hpos:=ok.pos
 obtain⟨m1,m2⟩:=qbt a b
 obtain⟨m,em⟩:∃ m,jnh a b=m:=⟨_,rfl⟩
 rw[em] at m1 m2 ⊢
 obtain⟨hA,eA,okA,nA,xA,gA⟩:=jeb ok [.int .i64 0,.int .i64 0,.nilSlice,.nilSlice,.int .i64 0,.int .i64 0,.nilSlice] 34
 obtain⟨hB,eB,okB,nB,xB,gB⟩:=jci okA [.int .i64 0,.int .i64 0] [si m.1,si m.2] 28
 have yA:=(gB h.next oa).trans xA
 have g1:pick 1 1073741824=1:=by decide
 have g2:pick 1 400=1:=by decide
 obtain⟨hC,eC,okC,nC,xC,gC⟩:=jci okB [.int .i64 0,.int .i64 0,.nilSlice,.nilSlice,.int .i64 0,.int .i64 0,.nilSlice] [si m.1,si m.2,jag jaz (jea m l).values,jag ja6 (jea m l).blocks,.int .i64 1,.int .i64 1,.nilSlice] 34
 have zC:hC.get h.next=some (.arr [.int .i64 0,.int .i64 0,.nilSlice,.nilSlice,.int .i64 0,.int .i64 0,.nilSlice] 34):=by rw[gC _ oa,gB _ oa];exact xA
 obtain⟨hD,eD,okD,nD,xD,gD⟩:=jx7 okC (b:=h.next) hpos (some (.arr [si m.1,si m.2,jag jaz (jea m l).values,jag ja6 (jea m l).blocks,.int .i64 1,.int .i64 1,.nilSlice] 34))
 have hh:(hB.next<=hA.next/\hA.next<hB.next)=False:=eq_false oa
 simp(disch:=first|omega|rfl) only[go_sem,eA,fs.m ha hb,em,qtv,eB,xB,fs.f m1 m2 pin lx,qtp,fs.p (n:=1) (k:=1073741824) oa oa oa oa,fs.p (n:=1) (k:=400) oa oa oa oa,g1,g2,hh]
 rw[j3a okB (hd:=[(hB.next,hB.next),(hB.next,hB.next),(hB.next,hB.next)]) rfl (by
  have e:∀ n:Nat,jaq [(n,n),(n,n),(n,n)] n=false:=fun n=>by simp[jaq,jav,jua]
  exact e _)]
 simp(disch:=first|omega|rfl) only[go_sem,eC,f0s]
 rw[jah]
 unfold qdz
 simp(disch:=first|omega|rfl) only[go_sem,f0s,xC,zC,eD,xD]
 exact⟨rfl,okD⟩
def qwq:List (List UInt8):=[[111,112],[111,112,32,49,32,117,115,101,32,49,10],[111,112,32,49,32,114,101,97,100,32,49,32,97,110,121,10],[111,112,32,49,32,117,115,101,32,49,32,102,105,120,101,100,10],[111,112,32,49,32,115,112,111,105,108,115,32,48,32,49,32,117,115,101,32,49,32,97,110,121,10],[101,100,103,101,10],[101,100,103,101,115,32,49,10],[98,108,111,99,107,32,49,32,10],[111,112,32,48,49,10],[10],[111,112,32,49,32,117,115,101,32,97,110,121,32,49,10],[111,112,32,49,32,117,115,101,32,108,97,116,101,32,108,97,116,101,32,49,32,97,110,121,10]]
section
variable {F:Fns} {p:Nat} {h:Hp} {s:Scr} {ln i:Nat} {blk:Ms.Blk}
theorem jsh (f:TkF F) (h3:3<=ln) (k:PtS p 0 h s ln) {ln0:List UInt8} {ws:List (List UInt8)} (hi:i+1=s.f.blocks.length) (hib:s.f.blocks[i]?=some blk) (hl:s.f.blocks.length<=10000) (hlb:blk.instrs.length<=10000) (hs:jch 32 ln0=wOp::ws) (hj:ln0.length<=4000000000) (hw:∀ x∈ws,Wk x) (hn:ws.length<100000) (hF:(inS ws false).2.2.2.2=true) :
 WC (FR F) 20 [.s (.ptr p 0),.s (.str ln0)] h (qe6 p h False s ln false):=by
 by_cases he:blk.edges=[]
 .refine WC.imp (qki f h3 k hs hj hw hn hi hib hl hlb he ⟨0,[],[]⟩) (fun v h' q=>?_)
  rw[hF] at q
  obtain⟨q1,_,q3⟩:=q
  exact⟨q1,fun h=>h.elim,q3⟩
 .refine jx3 f h3 k hs hj (fun x hx=>?_) hn hi hib hl (by decide) (.inr he) (by decide)
  rcases f0e.1 hx with rfl | hx
  .exact Wg.op.k
  .exact hw x hx
theorem wkL {ws:List (List UInt8)} (h:ws.all (fun w=>(match Lib.atoiAll w with | .ok v=>decide (0<=v/\v<=9223372036854775807) | _=>true)&&decide (w.length<=4000000000))=true):∀ w∈ws,Wk w:=fun w hw=>by
 have:=f20.1 h w hw
 rw[f00] at this
 exact Wk.of this.1 (of_decide_eq_true this.2)
theorem qwr (f:TkF F) (h3:3<=ln) (hi:i+1=s.f.blocks.length) (hib:s.f.blocks[i]?=some blk) (hl:s.f.blocks.length<=10000) (hlb:blk.instrs.length<=10000) (hle:blk.edges.length<=10000) {j:Nat} {o:List UInt8} (hj:qwq[j]?=some o) :
 (o≠[]/\(10:UInt8)∉o)∨∃ l,o=l++[10]/\(10:UInt8)∉l/\∀ p h,PtS p 0 h s ln->WC (FR F) 20 [.s (.ptr p 0),.s (.str l)] h (qe6 p h False s ln false):=by
 match j,hj with
 | 0,hj =>
  cases hj
  exact .inl ⟨sc,by decide⟩
 | 1,hj =>
  cases hj
  refine .inr ⟨[111,112,32,49,32,117,115,101,32,49],rfl,by decide,fun p h k=>?_⟩
  exact jsh f h3 k (ws:=[[49],[117,115,101],[49]]) hi hib hl hlb ka sc (wkL ka) sc ka
 | 2,hj =>
  cases hj
  refine .inr ⟨[111,112,32,49,32,114,101,97,100,32,49,32,97,110,121],rfl,by decide,fun p h k=>?_⟩
  exact jsh f h3 k (ws:=[[49],[114,101,97,100],[49],[97,110,121]]) hi hib hl hlb ka sc (wkL ka) sc ka
 | 3,hj =>
  cases hj
  refine .inr ⟨[111,112,32,49,32,117,115,101,32,49,32,102,105,120,101,100],rfl,by decide,fun p h k=>?_⟩
  exact jsh f h3 k (ws:=[[49],[117,115,101],[49],[102,105,120,101,100]]) hi hib hl hlb ka sc (wkL ka) sc ka
 | 4,hj =>
  cases hj
  refine .inr ⟨[111,112,32,49,32,115,112,111,105,108,115,32,48,32,49,32,117,115,101,32,49,32,97,110,121],rfl,by decide,fun p h k=>?_⟩
  exact jsh f h3 k (ws:=[[49],[115,112,111,105,108,115],[48],[49],[117,115,101],[49],[97,110,121]]) hi hib hl hlb ka sc (wkL ka) sc ka
 | 5,hj =>
  cases hj
  refine .inr ⟨[101,100,103,101],rfl,by decide,fun p h k=>?_⟩
  refine WC.imp (j6v f h3 k (ws:=[]) ka sc (wkL ka) sc hi hib hl hle ⟨0,[]⟩) (fun v h' q=>?_)
  rw[show(!(jg0 ([]:List (List UInt8)).tail (false||(jde (([]:List (List UInt8)).headD [])).2)).2.2)=false by kernel_rfl] at q
  exact⟨q.1,fun h=>h.elim,q.2.2⟩
 | 6,hj =>
  cases hj
  refine .inr ⟨[101,100,103,101,115,32,49],rfl,by decide,fun p h k=>?_⟩
  exact jx3 f h3 k (w:=[101,100,103,101,115]) (ws:=[[49]]) ka sc (wkL ka) sc hi hib hl (by decide) (.inl (by decide)) (by decide)
 | 7,hj =>
  cases hj
  refine .inr ⟨[98,108,111,99,107,32,49,32],rfl,by decide,fun p h k=>?_⟩
  refine WC.imp (qeo f h3 k (ws:=[[49],[]]) (l:=[]) ka sc (wkL ka) sc hl) (fun v h' q=>?_)
  rw[show(!(jg0 [[49],[]] false).2.2)=false by kernel_rfl] at q
  exact⟨q.1,fun h=>h.elim,q.2.2⟩
 | 8,hj =>
  cases hj
  refine .inr ⟨[111,112,32,48,49],rfl,by decide,fun p h k=>?_⟩
  exact jsh f h3 k (ws:=[[48,49]]) hi hib hl hlb ka sc (wkL ka) sc ka
 | 9,hj =>
  cases hj
  refine .inr ⟨[],rfl,by decide,fun p h k=>?_⟩
  exact jx3 f h3 k (w:=[]) (ws:=[]) ka sc (wkL ka) sc hi hib hl (by decide) (.inl (by decide)) (by decide)
 | 10,hj =>
  cases hj
  refine .inr ⟨[111,112,32,49,32,117,115,101,32,97,110,121,32,49],rfl,by decide,fun p h k=>?_⟩
  exact jsh f h3 k (ws:=[[49],[117,115,101],[97,110,121],[49]]) hi hib hl hlb ka sc (wkL ka) sc ka
 | 11,hj =>
  cases hj
  refine .inr ⟨[111,112,32,49,32,117,115,101,32,108,97,116,101,32,108,97,116,101,32,49,32,97,110,121],rfl,by decide,fun p h k=>?_⟩
  exact jsh f h3 k (ws:=[[49],[117,115,101],[108,97,116,101],[108,97,116,101],[49],[97,110,121]]) hi hib hl hlb ka sc (wkL ka) sc ka
 | n+12,hj=>cases hj
end
theorem jx5 {n k:Nat} (h:n<10 ^ k) (hk:1<=k):(ito n).length<=k:=jxa 19 n k [] h hk
theorem jt4 {k:Nat} (hk:1<=k):∀ {l:List Nat},(∀ n∈l,n<10 ^ k)->(jjf l).length<=(k+1)*l.length
 | [],_=>by simp[jjf]
 | n::l,h=>by
  have h1:=jt4 hk (l:=l) fun m hm=>h m (by grind)
  have h2:=jx5 (h n sc) hk
  grind[jlk,f0f,f0l,Nat.mul_succ]
theorem j61 {α:Type} {f:α->List UInt8} {c:α->Nat}:∀ {l:List α},(∀ a∈l,(f a).length<=c a)->((l.map f).flatten).length<=(l.map c).sum
 | [],_=>f0g _
 | a::l,h=>by
  rw[f01,f03,f0f,f01,f3d]
  exact Nat.add_le_add (h a sc) (j61 fun b hb=>h b (by grind))
section
variable {m:Nat×Nat} {f:Fc} {s:List Bool} {x:Scr}
theorem qws (m1:m.1<=10) (m2:m.2<=10) {y:Ms.Ins} {vs:List Nat} (i:InsOk m vs y) {o:Ms.Opd} (ho:o∈y.ops):o.n<10:=by
 have q:=i.opd o ho
 have hg:∀ c,g2 m c<=10:=fun c=>by unfold g2;grind
 have h5:=i.nops
 have h7:=q.lim
 by_cases e:o.limit=5
 .obtain ⟨u,hu,_⟩:=i.reu o ho e
  grind
 .by_cases e2:o.limit=4
  .have:=q.fix e2
   grind
  .have:=q.zero oa
   omega
theorem ScG.len (k:ScG f m s x):(j0w x).length<=59900:=by
 have kc:=k.o.k
 have hnv:=kc.nv
 have hnb:=kc.nb
 have hall:=kc.all
 have hm1:=k.m1
 have hm2:=k.m2
 have hg:∀ c,g2 m c<=10:=fun c=>by unfold g2;split<;>omega
 have ef:=k.ef
 subst ef
 have hb:∀ b∈x.f.blocks,(j23 b).length<=353*b.instrs.length+110:=fun b hb=>by
  obtain⟨h1,h2,h3⟩:=kc.blk b hb
  have p1:=jt4 (k:=3) oa (l:=b.params) (fun v hv=>by have:=kc.prm b hb v hv;omega)
  have i1:((b.instrs.map j5v).flatten).length<=353*b.instrs.length:=jd9 (fun y hy=>by
   have i:=kc.ins b hb y hy
   have h4:=i.op
   have h5:=i.nops
   have h6:=i.nsp
   have o1:=jd9 (f:=j22) (k:=21) (l:=y.ops) (fun o ho=>by
    have q:=i.opd o ho
    have q1:=jx5 (n:=o.value) (k:=3) (by have:=q.val;omega) oa
    have q2:=jx5 (n:=o.n) (k:=1) (by have:=qws oa oa i ho;omega) oa
    have q3:(kw o.kind).length<=3:=by unfold kw;split<;>simp
    have q4:(lw o.limit).length<=5:=by unfold lw;split<;>simp
    unfold j22 j0d
    simp only[f0f,f0l,f06]
    split<;>split<;>simp only[f0f,f0l,f06]<;>omega)
   have s1:=jd9 (f:=j8l) (k:=11) (l:=y.spoils) (fun r hr=>by
    obtain⟨h7,h8⟩:=i.spo r hr
    have q1:=jx5 (n:=r.1) (k:=1) oa oa
    have q2:=jx5 (n:=r.2) (k:=1) (by have:=hg r.1;omega) oa
    unfold j8l
    simp only[f0f,f0l,f06];omega)
   have q:=jx5 (n:=y.op) (k:=3) oa oa
   unfold j5v
   simp only[f0f,f0l,f06];omega)
  have e1:=jd9 (f:=j8o) (k:=28) (l:=b.edges) (fun e he=>by
   obtain⟨_,h4,t,h5,h6,_⟩:=kc.edg b hb e he
   have h7:=(f0t.1 h5).1
   have h8:=congrArg List.length h6
   simp only[f09] at h8
   have h9:=(kc.blk t (f0c h5)).1
   have q1:=jx5 (n:=e.block) (k:=2) oa oa
   have q2:=jt4 (k:=3) oa (l:=e.args) (fun v hv=>by have:=h4 v hv;omega)
   unfold j8o
   simp only[f0f,f0l,f06];omega)
  unfold j23
  simp only[f0f,f0l,f06];omega
 have h1:((x.f.blocks.map j23).flatten).length<=(x.f.blocks.map (fun b=>353*b.instrs.length+110)).sum:=j61 hb
 have h2:(x.f.blocks.map (fun b=>353*b.instrs.length+110)).sum=353*sm x.f.blocks+110*x.f.blocks.length:=by
  unfold sm
  generalize x.f.blocks=q
  induction q with
  | nil=>rfl
  | cons a q ih=>simp only[f01,f3d,f0l,ih];omega
 have v1:=jt4 (k:=1) oa (l:=x.f.values) (fun v hv=>by have:=kc.cls v hv;omega)
 have j1:=jt4 (k:=10) oa (l:=x.junk) (fun v hv=>by have:=k.j2 v hv;omega)
 have j2:=k.j1
 have g1:=jt4 (k:=2) oa (l:=[x.m1,x.m2]) (fun v hv=>by
  simp only[f0e,f1k,or_false] at hv
  have:=k.e1;have:=k.e2
  rcases hv with rfl | rfl<;>omega)
 have sd:=jx5 (n:=x.seed) (k:=10) (by have:=k.sd;omega) oa
 have st:=jx5 (n:=x.steps) (k:=4) (by have:=k.st;omega) oa
 unfold j0w
 simp only[f0f,f0l,f06] at g1 ⊢
 omega
theorem ScG.sct (k:ScG f m s x):ScT x:=by
 have kc:=k.o.k
 have hnv:=kc.nv
 have hnb:=kc.nb
 have hm1:=k.m1
 have hm2:=k.m2
 have hg:∀ c,g2 m c<=10:=fun c=>by unfold g2;grind
 have ef:=k.ef
 subst ef
 refine⟨⟨by rw[k.e1];omega,by rw[k.e2];omega,by have:=k.sd;omega,by have:=k.st;omega⟩,fun n hn=>by have:=k.j2 n hn;omega,fun n hn=>by have:=kc.cls n hn;omega,fun b hb=>⟨fun n hn=>by have:=kc.prm b hb n hn;omega,fun y hy=>?_,fun e he=>?_⟩⟩
 .have i:=kc.ins b hb y hy
  refine⟨by have:=i.op;omega,fun o ho=>?_,fun r hr=>?_⟩
  .have q:=i.opd o ho
   exact⟨by have:=q.kind;omega,q.lim,by have:=q.val;omega,by have:=qws oa oa i ho;omega,q.zero⟩
  .obtain ⟨h7,h8⟩:=i.spo r hr
   have:=hg r.1
   omega
 .obtain ⟨_,h4,t,h5,_⟩:=kc.edg b hb e he
  have h7:=(f0t.1 h5).1
  exact⟨oa,fun v hv=>by have:=h4 v hv;omega⟩
theorem ScG.chain {F:Fns} (tf:TkF F) (k:ScG f m s x):Chain F 0 qkj (j51 x) x:=by
 have kc:=k.o.k
 have hnb:=kc.nb
 have ef:=k.ef
 subst ef
 exact qwo tf k.sct (by have:=k.len;omega) oa fun b hb=>by have:=kc.blk b hb;omega
end
theorem qhz (s:Scr):(j51 s).length=3+(s.f.blocks.map (fun b=>1+b.instrs.length+b.edges.length)).sum:=by
 unfold j51 qhn
 have:∀ l:List Ms.Blk,((l.map j50).flatten).length=(l.map (fun b=>1+b.instrs.length+b.edges.length)).sum:=fun l=>by
  induction l with
  | nil=>rfl
  | cons b l ih =>
   rw[f01,f03,f0f,ih,f01,f3d]
   unfold j50
   grind
 grind
def nls (l:List UInt8):Nat:=l.count 10
theorem jhj (a b:List UInt8):nls (a++b)=nls a+nls b:=List.count_append ..
theorem qev:∀ (f n:Nat) (acc:List UInt8),nls (dig f n acc)=nls acc
 | 0,n,acc=>rfl
 | f+1,n,acc=>by
  show nls (oif (Nat.ble n 9) (UInt8.ofNat (48+n)::acc) (dig f (n / 10) (UInt8.ofNat (48+n % 10)::acc)))=_
  have key:∀ d,d<=9->nls (UInt8.ofNat (48+d)::acc)=nls acc:=fun d hd=>by
   unfold nls
   rw[List.count_cons_of_ne]
   intro e
   have:=congrArg UInt8.toNat e
   simp at this
   omega
  rw[jav]
  split
  .rename_i h
   exact key n (f0j h)
  .rw [qev f];exact key _ oa
theorem jj2 (n:Nat):nls (ito n)=0:=qev 19 n []
theorem jhk {α:Type} {f:α->List UInt8} {g:α->Nat} (hf:∀ a,nls (f a)=g a):∀ l:List α,nls ((l.map f).flatten)=(l.map g).sum
 | []=>rfl
 | a::l=>by rw[f01,f03,jhj,hf,jhk hf l,f01,f3d]
theorem jo7 {α:Type}:∀ l:List α,(l.map (fun _=>0)).sum=0
 | []=>rfl
 | a::l=>by rw[f01,f3d,jo7 l]
theorem j3b {α:Type}:∀ l:List α,(l.map (fun _=>1)).sum=l.length
 | []=>rfl
 | a::l=>by rw[f01,f3d,j3b l,f0l];omega
theorem j3c (l:List Nat):nls (jjf l)=0:=by
 unfold jjf
 rw[jhk (g:=fun _=>0) (fun n=>by
  show nls ([32]++ito n)=0
  rw[jhj,jj2];rfl),jo7]
theorem qwt (k:Nat):nls (kw k)=0:=by unfold kw;split<;>rfl
theorem qwu (k:Nat):nls (lw k)=0:=by unfold lw;split<;>rfl
theorem qrs (o:Ms.Opd):nls (j22 o)=0:=by
 unfold j22 j0d
 simp only[jhj,qwt,qwu,jj2]
 split<;>split<;>first | rfl | (simp only[jhj,jj2];rfl)
theorem qrt (r:Nat×Nat):nls (j8l r)=0:=by
 unfold j8l
 simp only[jhj,jj2];rfl
theorem qru (x:Ms.Ins):nls (j5v x)=1:=by
 unfold j5v
 simp only[jhj,jj2]
 rw[jhk (g:=fun _=>0) qrs,jhk (g:=fun _=>0) qrt,jo7,jo7];rfl
theorem qrv (e:Ms.Edg):nls (j8o e)=1:=by
 unfold j8o
 simp only[jhj,jj2,j3c];rfl
theorem qrw (b:Ms.Blk):nls (j23 b)=1+b.instrs.length+b.edges.length:=by
 unfold j23
 simp only[jhj,j3c]
 rw[jhk (g:=fun _=>1) qru,jhk (g:=fun _=>1) qrv,j3b,j3b]
 show 0+0+1+_+_=_
 omega
theorem qrx (s:Scr):nls (j0w s)=3+(s.f.blocks.map (fun b=>1+b.instrs.length+b.edges.length)).sum:=by
 unfold j0w
 simp only[jhj,j3c,jj2]
 rw[jhk (g:=fun b=>1+b.instrs.length+b.edges.length) qrw]
 rfl
def qwv (x i:Option AV):Option AV:=ob x (fun v=>ob i (fun w=>svc none v (fun s=>SV.casesOn (motive_1:=fun _=>Option AV) s (fun _=>none) (fun _ _=>none) (fun _=>none) (fun _ _=>none) none (fun _ _ _ _ _ _=>none) none (fun _ _=>none) none none (fun _=>none)
 (fun l=>below w (jb3 l) (fun m=>ob (jer l m) (fun b=>some (.s (.int .u8 (Int.ofNat (UInt8.toNat b))))))) (fun _=>none) (fun _=>none) none (fun _=>none))))
theorem qew {st fr:List AV} {x i:Od}:pop st fr (.stri x i)=qwv (ev st fr x) (ev st fr i):=rfl
theorem qh0 {l:List UInt8} {i:Nat} {b:UInt8} (hi:l[i]?=some b):qwv (some (.s (.str l))) (some (vi (i:Int)))=some (.s (.int .u8 (b.toNat:Int))):=by
 have hm:i<l.length:=(f0t.1 hi).1
 show below (vi (i:Int)) (jb3 l) (fun m=>ob (jer l m) (fun b=>some (AV.s (.int .u8 (Int.ofNat (UInt8.toNat b))))))=_
 rw[jgp (by rw[ja4];exact hm),jck,hi];rfl
open Go Go.RowKit
variable {g:FuncId} {vs:List AV} {b:Nat} {w:World}
def j62:IC:=.seq (.block 1 (qr [qM 14,qM 15,qP (.stri qb qa),qQ 12 (.bin .eq qa (.c (.s (.int .u8 10))))] (.cond (.g 12) (.region [qM 11,qP (.bin .add qa (qC 1)),qT 11]) .skip))) (.region [qM 15,qP (.bin .add qa (qC 1)),qT 15])
def jo8:IC:=.seq (qr [qM 15,qM 14,qA (.strop 3 qa qa),qQ 13 (.bin .lt qc qa)] (qX 13 0)) j62
def qex:IC:=qr [qQ 4 (.mv (.c (.s (.bool false))))] (qr [qM 0,qM 1,qM 2,qA (.call 6 [qc,qb,qa,qC 1,qC 1,.c (.s .nilSlice)]),qA (.call 5 [qa]),qP (.mv qa),qP (.ext 0 qa),qP (.ext 1 qb),qQ 14 (.mv qb),qQ 9 (.mv qb)] (qr [qQ 11 (.mv (qC 0))] (.seq (qr [qQ 15 (.mv (qC 0))] (.block 0 (.loop jo8))) (qr [qA (.bslice 9 1 [.str [],.str [],.str [],.str [],.str [],.str [],.str [],.str [],.str [],.str [],.str [],.str []] 12 [(0,(1,.c (.s (.str [111,112])))),(1,(1,.c (.s (.str [111,112,32,49,32,117,115,101,32,49,10])))),(2,(1,.c (.s (.str [111,112,32,49,32,114,101,97,100,32,49,32,97,110,121,10])))),(3,(1,.c (.s (.str [111,112,32,49,32,117,115,101,32,49,32,102,105,120,101,100,10])))),(4,(1,.c (.s (.str [111,112,32,49,32,115,112,111,105,108,115,32,48,32,49,32,117,115,101,32,49,32,97,110,121,10])))),(5,(1,.c (.s (.str [101,100,103,101,10])))),(6,(1,.c (.s (.str [101,100,103,101,115,32,49,10])))),(7,(1,.c (.s (.str [98,108,111,99,107,32,49,32,10])))),(8,(1,.c (.s (.str [111,112,32,48,49,10])))),(9,(1,.c (.s (.str [10])))),(10,(1,.c (.s (.str [111,112,32,49,32,117,115,101,32,97,110,121,32,49,10])))),(11,(1,.c (.s (.str [111,112,32,49,32,117,115,101,32,108,97,116,101,32,108,97,116,101,32,49,32,97,110,121,10]))))]),qT 10] (qr [qM 14,qM 10,qM 3,qM 10,qP (.len qa),qA (.call 8 [qc,qa]),qP (.ixs 1 (.l 4) qa),qL,qA (.strop 4 (.l 7) qa),qA (.call 7 [qa]),qP (.mv qa),qP (.ext 0 qa),qP (.ext 1 qb),qP (.ext 2 qc),qA (.new 34 [.int .i64 0,.int .i64 0,.nilSlice,.nilSlice,.int .i64 0,.int .i64 0,.nilSlice]),qA (.store 7 qa qd),qQ 7 (.mv qd),qQ 8 (.mv qd)] (qr [qA (.call 7 [.c (.s (.str [109,97,99,104,105,110,101,32,50,32,50,10,114,117,110,32,48,32,48,10]))]),qP (.mv qa),qP (.ext 0 qa),qP (.ext 1 qb),qP (.ext 2 qc),qA (.new 34 [.int .i64 0,.int .i64 0,.nilSlice,.nilSlice,.int .i64 0,.int .i64 0,.nilSlice]),qA (.store 7 qa qd),qQ 5 (.mv qd),qQ 6 (.mv qd)] (qr [qM 9,qP (.bin .eq qa (qC 0)),qP (.mv qa),qR 0 true (.mv (.g 8)),qR 1 true (.bin .eq qa (qC 4)),qP (.pick qc qa (.c (.s (.bool false)))),qP (.mv qa),qR 0 true (.mv (.g 7)),qR 1 true (.mv (.g 11)),qR 2 true (.bin .eq qb qa),qP (.pick qd qa (.c (.s (.bool false)))),qP (.mv qa),qR 0 true (.mv (.g 6)),qR 1 true (.bin .eq qa (qC 5)),qP (.pick qc qa (.c (.s (.bool false)))),qP (.mv qa),qR 0 true (.mv (.g 5)),qR 1 true (.bin .eq qa (qC 2)),qP (.pick qc qa (.c (.s (.bool false)))),qT 4] .ret)))))))
theorem qww:T 3=some (.mk qex 4 12 [(.tmp 4)]):=ka
theorem q3a (h:Tf g=true) {h0:Hp}:jdg FT1 g vs h0=none:=by
 unfold Tf at h
 simp only[f2j] at h
 rcases h with h | h | h | h | h<;>(have e:=f0i h;subst e;exact(qhy rfl rfl rfl).trans (qvu rfl rfl rfl rfl rfl rfl rfl rfl rfl rfl rfl))
theorem tkT:TkF FT1:=⟨fun g hg vs h=>q3a hg,rfl,fun g vs h r hr=>by
 have hs:SSh g=false:=by
  cases e:SSh g with
  | false=>rfl
  | true =>
   have:=f0i e
   subst this
   rw[jx4 rfl] at hr
   cases hr
 exact(ja8 hs).trans (j0s hr)⟩
def FV:Fns:=FR FT1
theorem q7t {A:Nat->Int}:Env Tryz.prog A tys FV:=j34 (j34 (j34 q7s j4h (qw6 qrb)) j4h (qw6 qrc)) j4h (qw6 qrd)
section
variable {h:Hp} {Q:Ex->St->Prop}
theorem qsb (h1:Nat.beq g qem.f=false) (h2:Nat.beq g qxi.f=false) (h3:Nat.beq g qrf.f=false):jdg FV g vs h=jdg FT1 g vs h:=(jk6 h1).trans ((jk6 h2).trans (jk6 h3))
theorem scV:ScF FV where
 x:=fun vs h=>(qsb rfl rfl rfl).trans (scT.x vs h)
 t:=rfl
 m:=fun {a b} ha hb {h Q}=>jam ((qsb rfl rfl rfl).trans ((qhy rfl rfl rfl).trans ((ja8 rfl).trans ((qe5 rfl rfl).trans ((ja8 rfl).trans ((qr8 rfl rfl rfl rfl).trans (jtv ha hb)))))))
 f:=fun {m l} m1 m2 pin {xl} lx {h Q}=>jam ((qsb rfl rfl rfl).trans ((qhy rfl rfl rfl).trans ((ja8 rfl).trans ((qe5 rfl rfl).trans ((ja8 rfl).trans ((qr8 rfl rfl rfl rfl).trans (qbu m1 m2 pin lx)))))))
 p:=fun {n k} h1 h2 hm hm2 {h Q}=>jam ((qsb rfl rfl rfl).trans ((qhy rfl rfl rfl).trans ((ja8 rfl).trans ((qe5 rfl rfl).trans ((ja8 rfl).trans ((qr8 rfl rfl rfl rfl).trans ((ja8 rfl).trans ((jhs.pk _ _).trans (jrj h1 h2 hm hm2)))))))))
theorem qry {F:Fns} {l:List UInt8} (hl:l.length<=1000000000) {x0 x1 x2 x3 x4 x5 x6 x7 x8 x9 x10:AV} :
 ∀ (d i:Nat) (_:i+d=l.length) {n:Nat} (_:n+d<=1000000000) {x12 x13:AV}
  (hQ:∀ x12 x13,Q (.exit 0) (.mk [x0,x1,x2,x3,x4,x5,x6,x7,x8,x9,x10,vi ((n+nls (l.drop i):Nat):Int),x12,x13,.s (.str l),vi l.length] h)),
  W F jo8.loop (.mk [x0,x1,x2,x3,x4,x5,x6,x7,x8,x9,x10,vi (n:Int),x12,x13,.s (.str l),vi i] h) Q
 | 0,i,hd,n,hn,x12,x13,hQ=>by
  obtain rfl:i=l.length:=oa
  rw[jah]
  unfold jo8
  have hln:=jw0 (l:=l) oa
  simp(disch:=first|omega|rfl) only[go_sem,jbr,jbs,jbt,jat,jan,jbu,jau,hln,f0s]
  have:=hQ x12 (vb false)
  rw[f2m] at this
  simpa[nls] using this
 | d+1,i,hd,n,hn,x12,x13,hQ=>by
  have hil:i<l.length:=oa
  have hlt:(i:Int)<(l.length:Int):=oa
  have hss:(i:Int)+1=((i+1:Nat):Int):=oa
  have hs2:(n:Int)+1=((n+1:Nat):Int):=oa
  obtain⟨b,hx⟩:∃ n,l[i]?=some n:=⟨_,f0b hil⟩
  have hdr:l.drop i=b::l.drop (i+1):=by rw[f1c hil,(f0t.1 hx).2]
  have hln:=jw0 (l:=l) oa
  have hst:=qh0 hx
  have hbe:jek .eq (.int .u8 (b.toNat:Int)) (.int .u8 10)=some (vb (decide ((b.toNat:Int)=10))):=by
   show some (AV.s (.bool (ieq (b.toNat:Int) 10)))=_
   rw[jdf]
  rw[jah]
  unfold jo8 j62
  by_cases hb:b=10
  .have e:((b.toNat:Int)=10)=True:=eq_true (by rw[hb];rfl)
   simp(disch:=first|omega|rfl) only[go_sem,jbr,jbs,jbt,jat,jan,jbu,jau,qew,hln,hst,hbe,jae,eq_true hlt,e,hss,hs2]
   refine qry hl d (i+1) oa (n:=n+1) oa (fun x12 x13=>?_)
   have:=hQ x12 x13
   have e2:n+nls (l.drop i)=n+1+nls (l.drop (i+1)):=by
    rw[hdr,hb]
    have:nls (10::l.drop (i+1))=nls (l.drop (i+1))+1:=List.count_cons_self
    omega
   rw[e2] at this
   exact this
  .have e:((b.toNat:Int)=10)=False:=eq_false (fun e=>hb (UInt8.toNat_inj.1 (by show b.toNat=10;omega)))
   simp(disch:=first|omega|rfl) only[go_sem,jbr,jbs,jbt,jat,jan,jbu,jau,qew,hln,hst,hbe,jae,eq_true hlt,e,hss]
   refine qry hl d (i+1) oa (n:=n) oa (fun x12 x13=>?_)
   have:=hQ x12 x13
   have e2:nls (l.drop i)=nls (l.drop (i+1)):=by rw[hdr];exact List.count_cons_of_ne (fun e=>hb e)
   rw[e2] at this
   exact this
theorem qwx {h:Hp} (ok:Ok h) {a b w:Int} {l:List Pc} (ha:In6 a) (hb:In6 b) (pin:∀ q∈l,Pin q) {xl:SV} (lx:LstE jb9 7 xl l) (hw:In6 w):WC FV 3 [vi a,vi b,.s xl,vi w] h (fun v _=>v=.s (.bool true)):=by
 refine ja3 ((qsb rfl rfl rfl).trans ((qhy rfl rfl rfl).trans (qvu rfl rfl rfl rfl rfl rfl rfl rfl rfl rfl rfl))) qww rfl ?_
 unfold qex
 obtain⟨m1,m2⟩:=qbt a b
 obtain⟨s,o,_,_⟩:=qqt m1 m2 l
 simp(disch:=first|omega|rfl) only[go_sem]
 refine WC.imp (qrr scV ok ha hb pin lx) ?_
 rintro _ hA ⟨rfl,okA⟩
 obtain⟨m,em⟩:∃ m,jnh a b=m:=⟨_,rfl⟩
 rw[em] at m1 m2 o ⊢
 obtain⟨X,eX⟩:∃ X:Scr,X=⟨m.1,m.2,1,1,[],jea m l⟩:=⟨_,rfl⟩
 have k:ScG (jea m l) m s X:=by
  subst eX
  exact⟨o,m1,m2,rfl,rfl,rfl,(by decide:1<=1073741824),(by decide:1<=5000),sc,sc⟩
 rw[←eX]
 have ch:=k.chain tkT
 have hlen:=k.len
 have hnl:=qrx X
 have hll:=qhz X
 have htx:=qeb X
 have hsh:=fun(h:Hp) (Q:AV->Hp->Prop)=>jam (Q:=Q) ((qsb (h:=h) rfl rfl rfl).trans (show jdg FT1 5 [.agg (jw7 X)] h=some (q3y X,h) from jbi rfl (by unfold jw7;simp only[jay,ja9,jbj,jen,jbb,jbk,jbg,jcg,jcr,jbm,if_true]) (qq9 blT jev k.tks (fun h Q=>qrq k) (fun h'=>⟨2,rfl⟩))))
 have kc:=k.o.k
 have hf:=k.ef
 obtain⟨S,hS⟩:∃ S,j0w X=S:=⟨_,rfl⟩
 unfold q3y at hsh
 rw[hS] at hlen hnl htx hsh
 simp(disch:=first|omega|rfl) only[go_sem,hsh]
 refine qry oa S.length 0 oa (n:=0) oa (fun x12 x13=>?_)
 rw[f1w,f0y]
 obtain⟨hB,eB,okB,nB,xB,gB⟩:=jeb okA (qwq.map SV.str) 9
 have xB':=xB
 unfold qwq at eB xB'
 simp only[f01,List.map_nil] at eB xB'
 obtain⟨j,ej⟩:∃ j,pk w 12=j:=⟨_,rfl⟩
 have hj:j<12:=by rw[←ej];exact jfu oa
 have hp:pick w 12=(j:Int):=by rw[←ej];exact jbo (m:=12) oa
 obtain⟨q,hq⟩:∃ q,qwq[j]?=some q:=⟨_,f0b (by exact hj)⟩
 have hql:q.length<=60:=by
  have:=f0c hq
  revert this
  have:∀ q∈qwq,q.length<=60:=by decide
  exact this q
 have r1:rdB (hB.get hA.next) (j*1) 1=some [.str q]:=by rw[xB,f19];exact j4p (by rw[f1b,hq];rfl)
 have hc:=jds (l:=S) (r:=q) oa
 have hb1:1<=X.f.blocks.length:=by rw[hf];exact kc.nb.1
 obtain⟨i,hi⟩:∃ i,i+1=X.f.blocks.length:=⟨X.f.blocks.length - 1,oa⟩
 obtain⟨blk,hib⟩:∃ b,X.f.blocks[i]?=some b:=⟨_,f0b oa⟩
 have hbl:=kc.blk blk (by rw[←hf];exact f0c hib)
 have hnb:=kc.nb.2
 have hln3:3<=(j51 X).length:=by rw[hll];omega
 have hln9:(j51 X).length<=S.length:=by
  rw[hll,←hnl];exact List.count_le_length
 have hodd:=qwr (ln:=(j51 X).length) (s:=X) (blk:=blk) tkT hln3 hi hib (by rw[hf];omega) oa oa hq
 have rb:=qrk (h:=hB) tkT ch okB (tail:=q) (by rw[htx,f0f];omega) oa hodd
 rw[htx] at rb
 simp(disch:=first|omega|rfl) only[go_sem,jbr,jbs,jbt,jat,jan,jbu,jau,eB,scV.p hw.1 hw.2 (k:=12) oa oa,hp,r1,hc]
 refine WC.imp rb ?_
 rintro _ hC ⟨rfl,okC⟩
 unfold rdE z7
 obtain⟨hD,eD,okD,nD,xD,gD⟩:=jci okC [.int .i64 0,.int .i64 0,.nilSlice,.nilSlice,.int .i64 0,.int .i64 0,.nilSlice] [.int .i64 0,.int .i64 0,.nilSlice,.nilSlice,.int .i64 0,.int .i64 0,.nilSlice] 34
 have c2:Chain FT1 0 qkj [[jdc,ito 2,ito 2],[j5z,ito 0,ito 0]] { ({ qkj with m1:=2,m2:=2 }:Scr) with seed:=0,steps:=0,junk:=[] }:=.cons (j6z tkT oa oa) (.cons (qet (l:=[]) tkT oa oa sc (by decide)) .nil)
 have e2:txt [[jdc,ito 2,ito 2],[j5z,ito 0,ito 0]]=[109,97,99,104,105,110,101,32,50,32,50,10,114,117,110,32,48,32,48,10]:=ka
 have rs:=qes (h:=hD) tkT c2 okD (by rw[e2];simp) sc
 rw[e2] at rs
 simp(disch:=first|omega|rfl) only[go_sem,jbr,jbs,jbt,jat,jan,jbu,jau,eD]
 refine WC.imp rs ?_
 rintro _ hE ⟨rfl,okE⟩
 unfold rdE z7
 obtain⟨hG,eG,okG,nG,xG,gG⟩:=jci okE [.int .i64 0,.int .i64 0,.nilSlice,.nilSlice,.int .i64 0,.int .i64 0,.nilSlice] [.int .i64 0,.int .i64 0,.nilSlice,.nilSlice,.int .i64 0,.int .i64 0,.nilSlice] 34
 have el:((j51 X).length:Int)=(nls S:Int):=by rw[hll,hnl]
 have c3:((([[jdc,ito 2,ito 2],[j5z,ito 0,ito 0]]:List (List (List UInt8))).length:Int)=2)=True:=sc
 simp(disch:=first|omega|rfl) only[go_sem,jbr,jbs,jbt,jat,jan,jbu,jau,eG,el,c3]
 done
end
theorem ji3 {P:Program}:∀ {l:List (String×DataW Unit)} {ps:List MemPlace},DataW.LaidVars P w l ps->∀ n d,(n,d)∈l ->
 ∃ g t cs fuel p,P.globalNamed n=some g/\(P.globals[g]?).map (·.type)=some t/\w.var? P n=some cs/\DataW.trod (fun _=>()) P w 0 (fun _=>true) false fuel t cs.toList=some (d,p)
 | [],ps,_,n,d,h=>by simp at h
 | (n0,d0)::l,ps,⟨g,t,cs,f,p,q,h1,h2,h3,h4,h5,_⟩,n,d,h=>by
  rcases f0e.1 h with h | h
  .cases h
   exact⟨g,t,cs,f,p,h1,h2,h3,h4⟩
  .exact ji3 h5 n d h
def qe7 (W:World) (b:Nat):Option (Array Value):=match W.heap[b]? with
 | some (.cells c e fr)=>some c
 | _=>none
theorem qrz (W:World):jys (qe7 W) W:=fun b cs h=>by
 unfold qe7 at h
 split at h
 .rename_i c e fr hb
  cases h
  exact⟨(e,fr),hb⟩
 .cases h
theorem jlx {P:Program} {W:World} {n:String} {g:Nat} {cs:Array Value} (hg:P.globalNamed n=some g) (hv:W.var? P n=some cs):qe7 W g=some cs:=by
 unfold World.var? at hv
 simp only[hg,Option.bind_some] at hv
 unfold qe7
 split at hv
 .rename_i c a b e
  rw[e];exact hv
 .cases hv
theorem qey {W:World} {k:Nat} {u:Value} (h:W.cell? ⟨b,k,none⟩=some u):∃ cs,qe7 W b=some cs/\cs[k]?=some u:=by
 unfold World.cell? at h
 simp only at h
 split at h
 .rename_i c e fr hb
  refine⟨c,?_,by simpa using h⟩
  unfold qe7
  rw[hb]
 .cases h
theorem jly {H:Type} {enc:TypeId×Value->H} {P:Program} {base:Nat} {sp:Nat->Bool} {held:Bool} {fuel:Nat} {t e:TypeId} {n:Nat} {cs:List Value} {ls:List (List UInt8)} {p:List MemPlace}
 (ht:P.underlying t=some (.array n e)) (he:P.underlying e=some .string) (hce:P.cellsOf e=1)
 (h:DataW.trod enc P w base sp held fuel t cs=some (.agg (ls.map fun l=>.lit (.string l)),p)):qr3 (ls.map .str) cs=true:=by
 obtain⟨xs,m,rfl,hx,hl,hn,hel⟩:=DataW.trod_array ht h
 have hxs:xs.map (·.1)=ls.map fun l=>(DataW.lit (.string l):DataW H):=by
  have:=congrArg Prod.fst hx
  simpa using this.symm
 have hlen:ls.length=n:=by
  have:=congrArg List.length hxs
  simp at this
  omega
 have key:∀ (i:Nat) (l:List UInt8),ls[i]?=some l->∃ u,cs[i]?=some u/\sv1 (.str l) u=true:=fun i l hi=>by
  have hin:i<n:=by
   have:=(f0t.1 hi).1
   omega
  have h0:=hel i hin
  rw[hce,f19] at h0
  have hxi:(xs.map (·.1))[i]?=some (DataW.lit (.string l):DataW H):=by rw[hxs,f1b,hi];rfl
  rw[f1b] at hxi
  obtain⟨q,hq,hq2⟩:=f0a.1 hxi
  rw[hq] at h0
  obtain⟨s,h1,h2,_⟩:=DataW.trod_string he h0
  have h3:cs[i]?=some (.string s):=by
   have:=congrArg (·[0]?) h1
   simpa[f2g,f1h] using this
  refine⟨_,h3,?_⟩
  rw[h2] at hq2
  simp only[DataW.lit.injEq,Lit.string.injEq] at hq2
  subst hq2
  show(s.data.toList == s.data.toList)=true
  exact beq_self_eq_true _
 clear hx hxs hlen hel h hl hn
 induction ls generalizing cs with
 | nil=>rfl
 | cons l ls ih =>
  obtain⟨u,h1,h2⟩:=key 0 l rfl
  cases cs with
  | nil=>cases h1
  | cons c cs =>
   cases h1
   show(sv1 (.str l) u&&qr3 (ls.map .str) cs)=true
   rw[h2,ih (cs:=cs) (fun i l hi=>key (i+1) l hi)]
   rfl
theorem jt5 {k:Nat} {u:Value} (h:w.cell? ⟨b,k,none⟩=some u):∃ c e fr,w.heap[b]?=some (.cells c e fr)/\c[k]?=some u:=by
 unfold World.cell? at h
 simp only at h
 split at h
 .rename_i c e fr hb
  exact⟨c,_,_,hb,by simpa using h⟩
 .cases h
def qkn (x:List Int):Pc:=⟨x.getD 0 0,x.getD 1 0,x.getD 2 0,x.getD 3 0,x.getD 4 0,x.getD 5 0,x.getD 6 0⟩
theorem qez:∀ {x:List Int},x.length=7->jb9 (qkn x)=x.map (fun n=>si n)
 | [a,b,c,d,e,f,g],_=>rfl
theorem j3d {W:World} {A2:Option Addr} {len cap:Nat} {xs:List (List Int)} (hl:xs.length=len) (hc:len<=cap) (hA:A2=none->cap=0) (hr:Recs 7 W A2 xs) :
 ∃ xl:SV,LstE jb9 7 xl (xs.map qkn)/\(∀ q∈xs.map qkn,Pin q)/\∀ A (φ:Phi),φ.k=qe7 W->cS A φ xl (.slice A2 len cap):=by
 subst hl
 have pin:∀ q∈xs.map qkn,Pin q:=fun q hq=>by
  obtain⟨x,hx,rfl⟩:=f1r.1 hq
  have hlen:=hr.len x hx
  have hw:=hr.wf x hx
  match x,hlen with
  | [a,b,c,d,e,f,g],_ =>
   have r:∀ n∈[a,b,c,d,e,f,g],-9223372036854775808<=n/\n<=9223372036854775807:=fun n hn=>jit (hw n hn)
   exact⟨r a sc,r b sc,r c sc,r d sc,r e sc,r f sc,r g sc⟩
 cases A2 with
 | none =>
  have h1:=hA rfl
  have h2:xs=[]:=f1e oa
  subst h2 h1
  exact⟨.nilSlice,LstE.enc (l:=[]) (fun _=>rfl),pin,fun A φ _=>rfl⟩
 | some ad =>
  rcases hr.at_ with rfl | ⟨b,off,e,hcell⟩
  .exact ⟨.lst [],LstE.emp,pin,fun A φ _=>.lst0 ad cap⟩
  .cases e
   cases xs with
   | nil=>exact⟨.lst [],LstE.emp,pin,fun A φ _=>.lst0 _ cap⟩
   | cons x0 xs =>
    have hx0:=hr.len x0 sc
    obtain⟨n0,hn0⟩:∃ n,x0[0]?=some n:=⟨_,f0b oa⟩
    have hc0:=hcell 0 x0 0 n0 rfl hn0
    obtain⟨cs,ty,fr,hb,_⟩:=jt5 hc0
    have hget:∀ (i:Nat) (x:List Int) (j:Nat) (n:Int),(x0::xs)[i]?=some x->x[j]?=some n->cs[off+i*7+j]?=some (.int .i64 n):=fun i x j n h1 h2=>by
     obtain⟨cs',ty',fr',hb',h3⟩:=jt5 (hcell i x j n h1 h2)
     rw[hb] at hb'
     cases hb'
     exact h3
    have row:∀ (i:Nat) (r:List SV),(((x0::xs).map qkn).map jb9)[i]?=some r->∃ x,(x0::xs)[i]?=some x/\r=x.map (fun n=>si n):=fun i r h=>by
     rw[f1b,f1b] at h
     obtain⟨q,hq,rfl⟩:=f0a.1 h
     obtain⟨x,hx,rfl⟩:=f0a.1 hq
     exact⟨x,hx,qez (hr.len x (f0c hx))⟩
    have one:∀ (i j:Nat) (r:List SV) (y:SV),(((x0::xs).map qkn).map jb9)[i]?=some r->r[j]?=some y->∃ n,y=si n/\cs[off+i*7+j]?=some (.int .i64 n):=fun i j r y h1 h2=>by
     obtain⟨x,hx,rfl⟩:=row i r h1
     rw[f1b] at h2
     obtain⟨n,hn,rfl⟩:=f0a.1 h2
     exact⟨n,rfl,hget i x j n hx hn⟩
    refine⟨jag jb9 ((x0::xs).map qkn),LstE.enc (fun _=>rfl),pin,fun A φ hφ=>?_⟩
    .have hrl:(((x0::xs).map qkn).map jb9).length=(x0::xs).length:=sc
     rw[←hrl]
     refine cD.lst _ b off cap 7 cs (fun i j=>(cs[off+i*7+j]?).getD (.bool false)) ?_ (by have:=hc;simp at this ⊢;exact this) (fun i r h=>?_) (fun i j r y h1 h2=>?_) (fun i j r y h1 h2=>?_)
     .rw [hφ]
      unfold qe7
      rw[hb]
     .obtain ⟨x,hx,rfl⟩:=row i r h
      rw[f09];exact hr.len x (f0c hx)
     .obtain ⟨n,rfl,h3⟩:=one i j r y h1 h2
      rw[h3];rfl
     .obtain ⟨n,rfl,h3⟩:=one i j r y h1 h2
      simp only[h3,f1n]
      exact .int _ _
end
end Go.Proofs.YtkpadfebkaangaaGreatDoor.Ev
namespace Go.Proofs.YtkpadfebkaangaaGreatDoor.textBad
open Go Go.RowKit Go.Proofs.YtkpadfebkaangaaGreatDoor.Ev Go.Proofs.YtkpadfebkaangaaGreatDoor.Ms
set_option linter.all false
set_option maxRecDepth 100000
theorem gk {W:World} (hL:laidMetH Tryz.prog Rows.textBadRow.laid W) (hs:W.ShapedOpen Tryz.prog):GK (qe7 W):=by
 rw[MakeChecks.laidMetH_plain _ _ _ ka] at hL
 obtain⟨ps,hv,_,_⟩:=hL
 refine⟨fun g cells e=>?_,?_,?_,?_,?_⟩
 .unfold qkx at e
  rw[jav] at e
  split at e
  .rename_i hg
   cases e
   rw[f0i hg]
   obtain⟨g',t,cs,f,p,h1,h2,h3,h4⟩:=ji3 hv "ostler/text.kinds" Rows.laid_ostler_text_kinds (f0c (i:=7) rfl)
   obtain rfl:=Option.some.inj ((show Tryz.prog.globalNamed "ostler/text.kinds"=some 0 by kernel_rfl).symm.trans h1)
   obtain rfl:=Option.some.inj ((show(Tryz.prog.globals[0]?).map (·.type)=some 115 by kernel_rfl).symm.trans h2)
   exact⟨cs,jlx h1 h3,jly (ls:=[[],[117,115,101],[100,101,102]]) Tryz.underlying115 Tryz.underlying9 ka h4⟩
  .rw [jav] at e
   split at e
   .rename_i hg
    cases e
    rw[f0i hg]
    obtain⟨g',t,cs,f,p,h1,h2,h3,h4⟩:=ji3 hv "ostler/text.limits" Rows.laid_ostler_text_limits (f0c (i:=6) rfl)
    obtain rfl:=Option.some.inj ((show Tryz.prog.globalNamed "ostler/text.limits"=some 1 by kernel_rfl).symm.trans h1)
    obtain rfl:=Option.some.inj ((show(Tryz.prog.globals[1]?).map (·.type)=some 116 by kernel_rfl).symm.trans h2)
    exact⟨cs,jlx h1 h3,jly (ls:=[[],[97,110,121],[114,101,103],[115,116,97,99,107],[102,105,120,101,100],[114,101,117,115,101]]) Tryz.underlying116 Tryz.underlying9 ka h4⟩
   .cases e
 .obtain ⟨m,hm⟩:=Tryz.laysM145.s1_3 W hs
  obtain⟨cs,h1,h2⟩:=qey (show W.cell? ⟨2,0,none⟩=some (.int .i64 m) from hm)
  exact⟨m,cs,h1,h2⟩
 .obtain ⟨g',t,cs,f,p,h1,h2,h3,h4⟩:=ji3 hv "internal/strconv.uint64pow10" Rows.laid_internal_strconv_uint64pow10 (f0c (i:=2) rfl)
  obtain rfl:=Option.some.inj ((show Tryz.prog.globalNamed "internal/strconv.uint64pow10"=some 3 by kernel_rfl).symm.trans h1)
  obtain rfl:=Option.some.inj ((show(Tryz.prog.globals[3]?).map (·.type)=some 160 by kernel_rfl).symm.trans h2)
  have hc:=Lib.cells_of_tab (zs:=Lib.pow10Tab) (k:=.u64) Tryz.underlying160 Tryz.underlying138 ka ka (by
   have e:(Rows.laid_internal_strconv_uint64pow10:DataW Unit)=Lib.tabData .u64 Lib.pow10Tab:=ka
   rw[←e];exact h4)
  rw[jlx h1 h3]
  congr 1
  rw[←hc]
 .obtain ⟨g',t,cs,f,p,h1,h2,h3,h4⟩:=ji3 hv "strconv.ErrSyntax" Rows.laid_strconv_ErrSyntax (f0c (i:=5) rfl)
  obtain rfl:=Option.some.inj ((show Tryz.prog.globalNamed "strconv.ErrSyntax"=some 4 by kernel_rfl).symm.trans h1)
  obtain rfl:=Option.some.inj ((show(Tryz.prog.globals[4]?).map (·.type)=some 49 by kernel_rfl).symm.trans h2)
  obtain⟨_,u,v,hc,_,_⟩:=iface_of_trod Tryz.underlying49 h4
  exact⟨cs,.iface u v,jlx h1 h3,by rw[←f1g,hc];rfl,.inr ⟨u,v,rfl⟩⟩
 .obtain ⟨g',t,cs,f,p,h1,h2,h3,h4⟩:=ji3 hv "strconv.ErrRange" Rows.laid_strconv_ErrRange (f0c (i:=4) rfl)
  obtain rfl:=Option.some.inj ((show Tryz.prog.globalNamed "strconv.ErrRange"=some 5 by kernel_rfl).symm.trans h1)
  obtain rfl:=Option.some.inj ((show(Tryz.prog.globals[5]?).map (·.type)=some 49 by kernel_rfl).symm.trans h2)
  obtain⟨_,u,v,hc,_,_⟩:=iface_of_trod Tryz.underlying49 h4
  exact⟨cs,.iface u v,jlx h1 h3,by rw[←f1g,hc];rfl,.inr ⟨u,v,rfl⟩⟩
theorem j0t (W:World) (g:GK (qe7 W)) (a0:Int) (i0:qr6 a0) (a1:Int) (i1:qr6 a1) (A2:Option Addr) (len2 cap2:Nat) (xs2:List (List Int)) (hl2:xs2.length=len2) (hc2:len2<=cap2) (hA2:A2=none->cap2=0) (hr2:Recs 7 W A2 xs2) (a3:Int) (i3:qr6 a3) :
 Calls Tryz.prog 3 #[.int .i64 a0,.int .i64 a1,.slice A2 len2 cap2,.int .i64 a3] W fun e w'=>e=.returned (.bool true)/\Below W.heap.size W w':=by
 obtain⟨xl,lx,pin,hcs⟩:=j3d hl2 hc2 hA2 hr2
 exact j95 (q7t (A:=fun _=>0)) (d:=()) (qwx jev i0 i1 pin lx i3) (qrz W) _ (.cons rfl (.cons rfl (.cons (hcs _ _ rfl) (.cons rfl .nil))))
end Go.Proofs.YtkpadfebkaangaaGreatDoor.textBad
