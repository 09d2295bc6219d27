/- What functions may be, whatever they are: the checks end. A machine, a value, sizes. -/
import Derived.Test.YtkplfnkgodnmaaaIa
import Derived.Test.YtkplfnkgodnmaaaEnc
namespace Go.Proofs.Ytkplfnkgodnmaaa.Ev
open Go Go.RowKit Go.Proofs.Ytkplfnkgodnmaaa.Ms
attribute [local go_sem] Int.reduceToNat reduceCtorEq Nat.reduceAdd Nat.reduceMul Nat.reduceEqDiff Int.reduceEq Int.reduceLT Int.reduceLE Int.reduceNeg Int.reduceAdd Int.reduceSub Int.reduceMul Int.reduceNe
attribute [local go_sem ↓] reduceIte
set_option linter.all false
set_option maxRecDepth 100000
set_option maxHeartbeats 4000000
variable {x0 x1 x2 x4 x5 x8 x9 x10 x11 x12 x14 x15 x16 x17 x20:AV} {agg:Bool} {Q:Ex->St->Prop} {h h':Hp} {fr st:List AV} {c:Nat}
theorem bx1 (ok:Ok h) (cs:List SV) (ty:Nat):∃ hA,h.push (AB.arr cs ty)=hA/\Ok hA/\hA.next=h.next+1/\hA.get h.next=some (.arr cs ty)/\∀ k,k<h.next->hA.get k=h.get k :=
 ⟨_,rfl,jb4 ok,Hp.next_push ..,by rw[jaq ok,if_pos rfl],fun k hk=>by rw[jaq ok,if_neg (by omega)]⟩
theorem nw1 (ok:Ok h) (zs cs:List SV) (ty:Nat):∃ hA,(h.push (AB.arr zs ty)).put h.next (some (.arr cs ty))=hA/\Ok hA/\hA.next=h.next+1/\hA.get h.next=some (.arr cs ty)/\∀ k,k<h.next->hA.get k=h.get k:=by
 have hp:=ok.pos
 exact⟨_,rfl,jdf (jb4 ok),by rw[Hp.next_put,Hp.next_push],by rw[jba (jb4 ok) hp,if_pos rfl],fun k hk=>by rw[jba (jb4 ok) hp,if_neg (by omega),jaq ok,if_neg (by omega)]⟩
theorem pt1 (ok:Ok h) {b:Nat} (hb:1<=b) (x:Option AB):∃ hA,h.put b x=hA/\Ok hA/\hA.next=h.next/\hA.get b=x/\∀ n,n≠b->hA.get n=h.get n :=
 ⟨_,rfl,jdf ok,Hp.next_put ..,by rw[jba ok hb,if_pos rfl],fun n hn=>by rw[jba ok hb,if_neg hn]⟩
structure Gw (h h':Hp):Prop where
 ok:Ok h'
 nx:h.next<=h'.next
 g:∀ n,n<h.next->h'.get n=h.get n
theorem Gw.trans {a b c:Hp} (x:Gw a b) (y:Gw b c):Gw a c:=⟨y.ok,f0w x.nx y.nx,fun n hn=>(y.g n (f0m hn x.nx)).trans (x.g n hn)⟩
theorem Gw.self {a:Hp} (ok:Ok a):Gw a a:=⟨ok,f0d _,fun _ _=>rfl⟩
theorem bxG (ok:Ok h) (cs:List SV) (ty:Nat):∃ hA,h.push (AB.arr cs ty)=hA/\Gw h hA/\hA.next=h.next+1/\hA.get h.next=some (.arr cs ty):=by
 obtain⟨hA,e,o,n,x,g⟩:=bx1 ok cs ty
 exact⟨hA,e,⟨o,by omega,g⟩,n,x⟩
theorem nwG (ok:Ok h) (zs cs:List SV) (ty:Nat):∃ hA,(h.push (AB.arr zs ty)).put h.next (some (.arr cs ty))=hA/\Gw h hA/\hA.next=h.next+1/\hA.get h.next=some (.arr cs ty):=by
 obtain⟨hA,e,o,n,x,g⟩:=nw1 ok zs cs ty
 exact⟨hA,e,⟨o,by omega,g⟩,n,x⟩
theorem jl8 {F:Fns} {f:FuncId} {vs:List AV} {u:AV} {Q:AV->Hp->Prop} (hx:jeb F f vs h=some (u,h')):WC F f vs h Q=Q u h':=by
 refine propext ⟨fun⟨n,v,h1,h2,h3⟩=>?_,juo hx⟩
 cases F with
 | mk T X =>
 have h4:Option.rec (motive:=fun _=>R) _ (fun r=>some r) (X f vs h)=some (v,h1):=h2
 rw[show X f vs h=some (u,h') from hx] at h4
 cases h4
 exact h3
theorem qnu {F:Fns} (hX:∀ vs h,jeb F 70 vs h=none) (hT:jy6 F 70=T 70) (ok:Ok h) {f:Fc} {v:Nat}:WC F 70 [.agg [jag jak f.values,jag jax f.blocks],vi v] h (fun u h'=>∃ d,jml true h' d u=some (vb (decide (v<f.values.length)))):=by
 refine jan (hX _ _) (hT.trans qk9) rfl ?_
 unfold j9h
 obtain⟨hA,eA,gA,nA,xA⟩:=bxG ok [jag jak f.values,jag jax f.blocks] 29
 have okA:=gA.ok
 have a1:(0<=(v:Int))=True:=by simp
 have a2:decide ((v:Int)<(f.values.length:Int))=decide (v<f.values.length):=decide_eq_decide.2 (by omega)
 have ll:=jad (enc:=jak) (l:=f.values)
 simp(disch:=first|omega|rfl) only[go_sem,eA,xA,a1,ll,a2]
 exact⟨1,rfl⟩
noncomputable def jte (n size:Nat) (agg:Bool) (x i:Option AV):Option AV:=ob x (fun v=>ob i (fun w=>AV.casesOn (motive:=fun _=>Option AV) v (fun _=>none) (fun cs=>jg9 w n (fun m=>ob (ja3 size (jbd (Nat.mul m size) cs)) (fun cs=>jdw agg cs))) (fun _=>none) none none))
theorem je9 {n size:Nat} {x i:Od}:pop st fr (.ival n size agg x i)=jte n size agg (ev st fr x) (ev st fr i):=rfl
theorem jl9 {a b:SV}:jte 2 1 false (some (.agg [a,b])) (some (vi 0))=some (.s a):=rfl
theorem jma {a b:SV}:jte 2 1 false (some (.agg [a,b])) (some (vi 1))=some (.s b):=rfl
structure SF (F:Fns):Prop where
 X:∀ f∈[49,50,65,66,67,78,76,68,69,51,52,53,71,34,77,82,72,79,35,54,36,38,59,55,58,37,56,57,63,12],∀ vs h,jeb F f vs h=none
 T:∀ f,jy6 F f=Ev.T f
 M:∀ (n:Nat) h,n<=16->jeb F 73 [.s (.int .u64 1),.s (.int .u64 (n:Int))] h=some (.tup [(false,[.int .u64 0]),(false,[.int .u64 (n:Int)])],h)
 V:∀ (f:Fc) (v:Nat) h,jeb F 70 [.agg [jag jak f.values,jag jax f.blocks],vi v] h=some (vb (decide (v<f.values.length)),h)
abbrev FA (f:Fc):AV:=.agg [jag jak f.values,jag jax f.blocks]
abbrev MA (m:Nat×Nat):AV:=.agg [si m.1,si m.2]
def jxw (P:Prop) (h:Hp):AV->Hp->Prop:=fun v h'=>∃ e:Int,v=vi e/\(e=0->P)/\Gw h h'
theorem jxw.no {P:Prop} {e:Int} (he:e≠0) (g:Gw h h'):jxw P h (vi e) h':=⟨e,rfl,fun h=>absurd h he,g⟩
theorem jxw.yes {P:Prop} (p:P) (g:Gw h h'):jxw P h (vi 0) h':=⟨0,rfl,fun _=>p,g⟩
section
variable {F:Fns} (S:SF F)
include S
theorem jcm (ok:Ok h) {m:Nat×Nat}:WC F 49 [MA m] h (jxw ((2<=m.1/\m.1<=10)/\2<=m.2/\m.2<=10) h):=by
 refine jan (S.X _ (by simp) _ _) ((S.T _).trans qnq) rfl ?_
 unfold qhu
 obtain⟨hA,eA,gA,nA,xA⟩:=bxG ok [si m.1,si m.2] 25
 have okA:=gA.ok
 simp(disch:=first|omega|rfl) only[go_sem,eA,xA]
 rw[jae]
 unfold j9b j9a
 by_cases c1:(m.1:Int)<2
 .simp (disch:=first|omega|rfl) only[go_sem,jac,je9,jl9,eq_true c1]
  exact .no (by decide) gA
 by_cases c2:(10:Int)<(m.1:Int)
 .simp (disch:=first|omega|rfl) only[go_sem,jac,je9,jl9,eq_false c1,eq_true c2]
  exact .no (by decide) gA
 simp(disch:=first|omega|rfl) only[go_sem,jac,je9,jl9,eq_false c1,eq_false c2]
 rw[jae]
 by_cases c3:(m.2:Int)<2
 .simp (disch:=first|omega|rfl) only[go_sem,jac,je9,jma,eq_true c3]
  exact .no (by decide) gA
 by_cases c4:(10:Int)<(m.2:Int)
 .simp (disch:=first|omega|rfl) only[go_sem,jac,je9,jma,eq_false c3,eq_true c4]
  exact .no (by decide) gA
 simp(disch:=first|omega|rfl) only[go_sem,jac,je9,jma,eq_false c3,eq_false c4]
 rw[jae]
 simp(disch:=first|omega|rfl) only[go_sem]
 exact .yes ⟨⟨by omega,by omega⟩,by omega,by omega⟩ gA
theorem jvE {f:Fc} {v:Nat} {Q:AV->Hp->Prop}:WC F 70 [FA f,vi v] h Q=Q (vb (decide (v<f.values.length))) h:=jl8 (S.V f v h)
theorem qnv (ok:Ok h) {f:Fc} {v:Nat}:WC F 70 [FA f,vi v] h (fun u h'=>u=vb (decide (v<f.values.length))/\Gw h h'):=by
 rw[jvE S];exact⟨rfl,.self ok⟩
theorem j91 {l:List Ms.Ins} (hl:l.length<=10000) {x13:AV} :
 ∀ (d i:Nat) (_:i+d=l.length) {hi:Hp} (_:Ok hi) {x2 x3 x5:AV}
  (hQ:∀ hj x2 x3 x5,Gw hi hj->(∀ x∈l.drop i,x.ops.length<=6/\x.spoils.length<=20)->Q (.exit 2) (.mk [x0,x1,x2,x3,.s (jag jdh l),x5,vi l.length,vi l.length,x8,x9,x10,x11,x12,x13,x14,x15,x16,x17] hj))
  (hR:∀ fr hj,jbp fr 1=some (vi 1)->Gw hi hj->Q .ret (.mk fr hj)),
  W F juy.loop (.mk [x0,x1,x2,x3,.s (jag jdh l),x5,vi l.length,vi i,x8,x9,x10,x11,x12,x13,x14,x15,x16,x17] hi) Q
 | 0,i,hd,hi,ok,x2,x3,x5,hQ,hR=>by
  obtain rfl:i=l.length:=by omega
  rw[jae]
  unfold juy
  simp(disch:=first|omega|rfl) only[go_sem,f0q]
  exact hQ hi _ _ _ (.self ok) (by simp)
 | d+1,i,hd,hi,ok,x2,x3,x5,hQ,hR=>by
  have hil:i<l.length:=by omega
  have hlt:(i:Int)<l.length:=by omega
  obtain⟨x,hget⟩:∃ x,l[i]?=some x:=⟨_,f0b (by omega)⟩
  have hix:=jaf (enc:=jdh) (size:=3) hget rfl
  have hs:(i:Int)+1=((i+1:Nat):Int):=by omega
  have ed:l.drop i=x::l.drop (i+1):=by
   rw[f0p hil,(f0e.1 hget).2]
  obtain⟨hA,eA,gA,nA,xA⟩:=nwG ok [.int .i64 0,.nilSlice,.nilSlice] (jdh x) 73
  have okA:=gA.ok
  have l1:=jad (enc:=jbc) (l:=x.ops)
  have l2:=jad (enc:=jcu) (l:=x.spoils)
  unfold jdh at xA eA
  rw[jae]
  unfold juy j9c
  by_cases c1:6<(x.ops.length:Int)
  .simp (disch:=first|omega|rfl) only[go_sem,jac,eq_true hlt,hix,jdh,eA,xA,l1,l2,eq_true c1]
   exact hR _ _ rfl gA
  by_cases c2:20<(x.spoils.length:Int)
  .simp (disch:=first|omega|rfl) only[go_sem,jac,eq_true hlt,hix,jdh,eA,xA,l1,l2,eq_false c1,eq_true c2]
   exact hR _ _ rfl gA
  simp(disch:=first|omega|rfl) only[go_sem,jac,eq_true hlt,hix,jdh,eA,xA,l1,l2,eq_false c1,eq_false c2,hs]
  refine j91 hl d (i+1) (by omega) okA (fun hj x2 x3 x5 g hh=>hQ hj x2 x3 x5 (gA.trans g) (fun y hy=>?_)) (fun fr hj e g=>hR fr hj e (gA.trans g))
  rw[ed] at hy
  rcases f0h.1 hy with rfl | hy
  .exact ⟨by omega,by omega⟩
  .exact hh y hy
structure BSz (b:Blk):Prop where
 p:b.params.length<=5
 i:b.instrs.length<=40
 e:b.edges.length<=3
 x:∀ x∈b.instrs,x.ops.length<=6/\x.spoils.length<=20
theorem j92 {l:List Blk} (hl:l.length<=10000) (hin:∀ b∈l,b.instrs.length<=10000) :
 ∀ (d i:Nat) (_:i+d=l.length) {hi:Hp} (_:Ok hi) {s:Nat} (_:s<=160) {x2 x3 x4 x5 x6 x7 x8 x10 x11 x13:AV}
  (hQ:∀ hj x2 x3 x4 x5 x6 x7 x8 x9 x10 x11 x13,Gw hi hj->(∀ b∈l.drop i,BSz b)->Q (.exit 0) (.mk [x0,x1,x2,x3,x4,x5,x6,x7,x8,x9,x10,x11,.s (jag jax l),x13,vi l.length,vi l.length,x16,x17] hj))
  (hR:∀ fr hj,jbp fr 1=some (vi 1)->Gw hi hj->Q .ret (.mk fr hj)),
  W F juz.loop (.mk [x0,x1,x2,x3,x4,x5,x6,x7,x8,vi s,x10,x11,.s (jag jax l),x13,vi l.length,vi i,x16,x17] hi) Q
 | 0,i,hd,hi,ok,s,hs160,x2,x3,x4,x5,x6,x7,x8,x10,x11,x13,hQ,hR=>by
  obtain rfl:i=l.length:=by omega
  rw[jae]
  unfold juz
  simp(disch:=first|omega|rfl) only[go_sem,f0q]
  exact hQ hi _ _ _ _ _ _ _ _ _ _ _ (.self ok) (by simp)
 | d+1,i,hd,hi,ok,s,hs160,x2,x3,x4,x5,x6,x7,x8,x10,x11,x13,hQ,hR=>by
  have hil:i<l.length:=by omega
  have hlt:(i:Int)<l.length:=by omega
  obtain⟨b,hget⟩:∃ b,l[i]?=some b:=⟨_,f0b (by omega)⟩
  have hmem:=f0c hget
  have hbi:=hin b hmem
  have hix:=jaf (enc:=jax) (size:=3) hget rfl
  have hs:(i:Int)+1=((i+1:Nat):Int):=by omega
  have ed:l.drop i=b::l.drop (i+1):=by
   rw[f0p hil,(f0e.1 hget).2]
  have hadd:(s:Int)+(b.instrs.length:Int)=((s+b.instrs.length:Nat):Int):=by omega
  obtain⟨hA,eA,gA,nA,xA⟩:=nwG ok [.nilSlice,.nilSlice,.nilSlice] (jax b) 54
  have okA:=gA.ok
  have l1:=jad (enc:=jak) (l:=b.params)
  have l2:=jad (enc:=jdh) (l:=b.instrs)
  have l3:=jad (enc:=jdu) (l:=b.edges)
  unfold jax at xA eA
  rw[jae]
  unfold juz j9f
  by_cases c1:5<(b.params.length:Int)
  .simp (disch:=first|omega|rfl) only[go_sem,jac,eq_true hlt,hix,jax,eA,xA,l1,l2,l3,eq_true c1]
   exact hR _ _ rfl gA
  by_cases c2:40<(b.instrs.length:Int)
  .simp (disch:=first|omega|rfl) only[go_sem,jac,eq_true hlt,hix,jax,eA,xA,l1,l2,l3,eq_false c1,eq_true c2]
   exact hR _ _ rfl gA
  by_cases c3:3<(b.edges.length:Int)
  .simp (disch:=first|omega|rfl) only[go_sem,jac,eq_true hlt,hix,jax,eA,xA,l1,l2,l3,eq_false c1,eq_false c2,eq_true c3]
   exact hR _ _ rfl gA
  simp(disch:=first|omega|rfl) only[go_sem,jac,eq_true hlt,hix,jax,eA,xA,l1,l2,l3,eq_false c1,eq_false c2,eq_false c3]
  unfold j9e
  by_cases c4:160<((s+b.instrs.length:Nat):Int)
  .simp (disch:=first|omega|rfl) only[go_sem,jac,xA,l2,hadd,eq_true c4]
   exact hR _ _ rfl gA
  simp(disch:=first|omega|rfl) only[go_sem,jac,xA,l2,hadd,eq_false c4]
  unfold j9d
  simp(disch:=first|omega|rfl) only[go_sem,jac,xA,l2]
  refine j91 S (by omega) b.instrs.length 0 (by omega) okA (fun hj x2 x3 x5 g hh=>?_) (fun fr hj e g=>?_)
  .simp (disch:=first|omega|rfl) only[go_sem,jac,hs]
   refine j92 hl hin d (i+1) (by omega) g.ok (by omega) (fun hk x2 x3 x4 x5 x6 x7 x8 x9 x10 x11 x13 g2 hb=>hQ hk x2 x3 x4 x5 x6 x7 x8 x9 x10 x11 x13 (gA.trans (g.trans g2)) (fun y hy=>?_)) (fun fr hk e g2=>hR fr hk e (gA.trans (g.trans g2)))
   rw[ed] at hy
   rcases f0h.1 hy with rfl | hy
   .exact ⟨by omega,by omega,by omega,by simpa using hh⟩
   .exact hb y hy
  .simp (disch:=first|omega|rfl) only[go_sem]
   exact hR fr hj e (gA.trans g)
theorem jsz (ok:Ok h) {f:Fc} (hl:f.blocks.length<=10000) (hin:∀ b∈f.blocks,b.instrs.length<=10000):WC F 50 [FA f] h (jxw (1<=f.blocks.length/\f.blocks.length<=16/\f.values.length<=160/\∀ b∈f.blocks,BSz b) h):=by
 refine jan (S.X _ (by simp) _ _) ((S.T _).trans qnr) rfl ?_
 unfold qhv
 obtain⟨hA,eA,gA,nA,xA⟩:=bxG ok [jag jak f.values,jag jax f.blocks] 29
 have okA:=gA.ok
 have l1:=jad (enc:=jak) (l:=f.values)
 have l2:=jad (enc:=jax) (l:=f.blocks)
 by_cases c1:(f.blocks.length:Int)<1
 .simp (disch:=first|omega|rfl) only[go_sem,eA,xA,l1,l2,eq_true c1]
  exact .no (by decide) gA
 by_cases c2:16<(f.blocks.length:Int)
 .simp (disch:=first|omega|rfl) only[go_sem,eA,xA,l1,l2,eq_false c1,eq_true c2]
  exact .no (by decide) gA
 by_cases c3:160<(f.values.length:Int)
 .simp (disch:=first|omega|rfl) only[go_sem,eA,xA,l1,l2,eq_false c1,eq_false c2,eq_true c3]
  exact .no (by decide) gA
 simp(disch:=first|omega|rfl) only[go_sem,eA,xA,l1,l2,eq_false c1,eq_false c2,eq_false c3]
 unfold j9g
 simp(disch:=first|omega|rfl) only[go_sem,xA,l2]
 refine j92 S hl hin f.blocks.length 0 (by omega) okA (s:=0) (by omega) (fun hj x2 x3 x4 x5 x6 x7 x8 x9 x10 x11 x13 g hb=>?_) (fun fr hj e g=>?_)
 .simp (disch:=first|omega|rfl) only[go_sem]
  exact .yes ⟨by omega,by omega,by omega,by simpa using hb⟩ (gA.trans g)
 .simp (disch:=first|omega|rfl) only[go_sem,e]
  exact .no (by decide) (gA.trans g)
end
def cv (vs:List Nat) (v:Nat):Nat:=vs.getD v 0
theorem jrq {vs:List Nat} {v:Nat} (h:v<vs.length):vs[v]?=some (cv vs v):=by
 unfold cv;rw[f0n,f0b h];rfl
def qd3 (f:Fc):Prop:=∀ c∈f.values,c<2
theorem qd3.at {f:Fc} (k:qd3 f) {v:Nat} (h:v<f.values.length):cv f.values v<2:=k _ (f0c (jrq h))
structure OpT (f:Fc) (o:Ms.Opd):Prop where
 k:o.kind=1∨o.kind=2
 v:o.value<f.values.length
abbrev OA (o:Ms.Opd):AV:=.agg [si o.kind,si o.value,.bool o.late,si o.limit,si o.n]
abbrev XA (x:Ms.Ins):AV:=.agg [si x.op,jag jbc x.ops,jag jcu x.spoils]
section
variable {F:Fns} (S:SF F)
include S
theorem qnw (ok:Ok h) {f:Fc} (hc:qd3 f) {m:Nat×Nat} {o:Ms.Opd}:WC F 65 [FA f,MA m,OA o] h (jxw (OpT f o) h):=by
 obtain⟨kd,vl,lt,lm,n⟩:=o
 refine jan (S.X _ (by simp) _ _) ((S.T _).trans qhw) rfl ?_
 unfold j1z
 obtain⟨hA,eA,gA,nA,xA⟩:=bxG ok [jag jak f.values,jag jax f.blocks] 29
 obtain⟨hB,eB,gB,nB,xB⟩:=bxG gA.ok [si m.1,si m.2] 25
 obtain⟨hC,eC,gC,nC,xC⟩:=bxG gB.ok [si kd,si vl,.bool lt,si lm,si n] 92
 have okA:=gA.ok
 have okB:=gB.ok
 have okC:=gC.ok
 have G:=gA.trans (gB.trans gC)
 have nb:hB.next=h.next+2:=by omega
 have yA:=(gC.g h.next (by omega)).trans ((gB.g h.next (by omega)).trans xA)
 rw[nA] at xB
 have yB:=(gC.g (h.next+1) (by omega)).trans xB
 rw[nb] at xC
 have K:(((kd:Int)≠1)=True/\((kd:Int)≠2)=True)∨((kd=1∨kd=2)/\((((kd:Int)≠1)=False/\((kd:Int)≠1)=False)∨(((kd:Int)≠1)=True/\((kd:Int)≠2)=False))):=by
  by_cases h1:kd=1
  .exact .inr ⟨.inl h1,.inl ⟨eq_false (by simp[h1]),eq_false (by simp[h1])⟩⟩
  .by_cases h2:kd=2
   .exact .inr ⟨.inr h2,.inr ⟨eq_true (by omega),eq_false (by simp[h2])⟩⟩
   .exact .inl ⟨eq_true (by omega),eq_true (by omega)⟩
 rcases K with⟨k1,k2⟩ | ⟨hk,K⟩
 .simp (disch:=first|omega|rfl) only[go_sem,eA,nA,eB,nb,eC,xC,k1,k2]
  unfold jgz
  simp(disch:=first|omega|rfl) only[go_sem]
  exact .no (by decide) G
 have key:∀ (x4 x5 x7:AV) (Q:Ex->St->Prop),(∀ fr h' (e:Int),jbp fr 3=some (vi e)->e≠0->Gw h h'->Q .ret (.mk fr h'))->(∀ x4 x5 x7 h',vl<f.values.length->Gw h h'->Q .normal (.mk [FA f,MA m,.agg [si kd,si vl,.bool lt,si lm,si n],vi 0,x4,x5,.s (.ptr (h.next+1) 0),x7,.s (.ptr h.next 0),vb false,.s (.ptr (h.next+2) 0)] h')) ->
  W F jgz (.mk [FA f,MA m,.agg [si kd,si vl,.bool lt,si lm,si n],vi 0,x4,x5,.s (.ptr (h.next+1) 0),x7,.s (.ptr h.next 0),vb false,.s (.ptr (h.next+2) 0)] hC) Q:=fun x4 x5 x7 Q hR hQ=>by
  unfold jgz
  simp(disch:=first|omega|rfl) only[go_sem,yA,xC]
  refine WC.imp (qnv S okC (f:=f) (v:=vl)) ?_
  rintro _ hD ⟨rfl,gD⟩
  have okD:=gD.ok
  have zA:=(gD.g h.next (by omega)).trans yA
  have zB:=(gD.g (h.next+1) (by omega)).trans yB
  have zC:=(gD.g (h.next+2) (by omega)).trans xC
  by_cases hv:¬ vl<f.values.length
  .simp (disch:=first|omega|rfl) only[go_sem,hv]
   exact hR _ _ 2 rfl (by decide) (G.trans gD)
  have hv:=Classical.not_not.1 hv
  simp(disch:=first|omega|rfl) only[go_sem,hv]
  unfold ju0
  have i1:=jaf (enc:=jak) (size:=1) (jrq hv) rfl
  have hc2:=hc.at hv
  obtain⟨c,ec⟩:∃ c,cv f.values vl=c:=⟨_,rfl⟩
  rw[ec] at i1 hc2
  have ix:∀ b,j4z 2 1 (.s (.ptr b 0)) (vi (c:Int))=some (.s (.ptr b c)):=fun b=>by
   have:c=0∨c=1:=by omega
   rcases this with rfl | rfl<;>rfl
  obtain⟨g,rdm⟩:∃ g:Nat,rdB (some (.arr [si m.1,si m.2] 25)) c 1=some [si g]:=by
   have:c=0∨c=1:=by omega
   rcases this with rfl | rfl
   .exact ⟨m.1,rfl⟩
   .exact ⟨m.2,rfl⟩
  have n0:((n:Int)<0)=False:=eq_false (by omega)
  have tail:∀ (x4 x5 x7:AV),W F (.seq (.seq (.region [(.mk .none (.p (.fld 3 (.g 10))) .none),(.mk .none (.a (.load 1 false (.l 0))) .none),(.mk .none (.p (.bin .le (.l 0) (.c (.s (.int .i64 3))))) .none),(.mk .none (.p (.mv (.l 0))) .none),(.mk .none (.p (.fld 4 (.g 10))) (.some (0,true))),(.mk .none (.a (.load 1 false (.l 0))) (.some (1,true))),(.mk .none (.p (.bin .ne (.l 0) (.c (.s (.int .i64 0))))) (.some (2,true))),(.mk .none (.p (.pick (.l 3) (.l 0) (.c (.s (.bool false))))) .none),(.mk (.some 4) (.p (.mv (.l 0))) .none)]) (.cond (.g 4) .skip (.region [(.mk .none (.p (.fld 3 (.g 10))) .none),(.mk .none (.a (.load 1 false (.l 0))) .none),(.mk .none (.p (.bin .eq (.l 0) (.c (.s (.int .i64 5))))) .none),(.mk .none (.p (.mv (.l 0))) .none),(.mk .none (.p (.fld 0 (.g 10))) (.some (0,true))),(.mk .none (.a (.load 1 false (.l 0))) (.some (1,true))),(.mk .none (.p (.bin .ne (.l 0) (.c (.s (.int .i64 2))))) (.some (2,true))),(.mk .none (.p (.mv (.l 0))) (.some (3,true))),(.mk .none (.p (.fld 2 (.g 10))) (.some (0,false))),(.mk .none (.a (.load 1 false (.l 0))) (.some (1,false))),(.mk .none (.p (.not (.l 0))) (.some (2,false))),(.mk .none (.p (.pick (.l 3) (.c (.s (.bool true))) (.l 0))) (.some (7,true))),(.mk .none (.p (.pick (.l 8) (.l 0) (.c (.s (.bool false))))) .none),(.mk (.some 4) (.p (.mv (.l 0))) .none)]))) joq) (.mk [FA f,MA m,.agg [si kd,si vl,.bool lt,si lm,si n],vi 0,x4,x5,.s (.ptr (h.next+1) 0),x7,.s (.ptr h.next 0),vb false,.s (.ptr (h.next+2) 0)] hD) Q:=fun x4 x5 x7=>by
   unfold joq
   have fin:∀ x4 x5 x7,Q .normal (.mk [FA f,MA m,.agg [si kd,si vl,.bool lt,si lm,si n],vi 0,x4,x5,.s (.ptr (h.next+1) 0),x7,.s (.ptr h.next 0),vb false,.s (.ptr (h.next+2) 0)] hD):=fun x4 x5 x7=>hQ x4 x5 x7 hD hv (G.trans gD)
   by_cases h3:(lm:Int)<=3
   .have h5:((lm:Int)=5)=False:=eq_false (by omega)
    by_cases hn:(n:Int)=0
    .have hn':((n:Int)≠0)=False:=eq_false (fun h=>h hn)
     simp(disch:=first|omega|rfl) only[go_sem,zC,eq_true h3,hn',h5]
     exact fin _ _ _
    .have hn':((n:Int)≠0)=True:=eq_true hn
     simp(disch:=first|omega|rfl) only[go_sem,zC,eq_true h3,hn']
     exact hR _ _ 4 rfl (by decide) (G.trans gD)
   .by_cases h5:(lm:Int)=5
    .by_cases h2:(kd:Int)=2
     .have h2':((kd:Int)≠2)=False:=eq_false (fun h=>h h2)
      cases lt with
      | true =>
       simp(disch:=first|omega|rfl) only[go_sem,zC,eq_false h3,eq_true h5,h2']
       exact fin _ _ _
      | false =>
       simp(disch:=first|omega|rfl) only[go_sem,zC,eq_false h3,eq_true h5,h2']
       exact hR _ _ 4 rfl (by decide) (G.trans gD)
     .have h2':((kd:Int)≠2)=True:=eq_true h2
      simp(disch:=first|omega|rfl) only[go_sem,zC,eq_false h3,eq_true h5,h2']
      exact hR _ _ 4 rfl (by decide) (G.trans gD)
    .simp (disch:=first|omega|rfl) only[go_sem,zC,eq_false h3,eq_false h5]
     exact fin _ _ _
  by_cases h4:(lm:Int)=4
  .by_cases hg:(g:Int)<=(n:Int)
   .simp (disch:=first|omega|rfl) only[go_sem,zA,zB,zC,eq_true h4,n0,jak,i1,ix,rdm,eq_true hg]
    exact hR _ _ 2 rfl (by decide) (G.trans gD)
   .simp (disch:=first|omega|rfl) only[go_sem,zA,zB,zC,eq_true h4,n0,jak,i1,ix,rdm,eq_false hg]
    have:=tail x4 (vb false) (vb false)
    simp(disch:=first|omega|rfl) only[go_sem,zC] at this
    exact this
  .simp (disch:=first|omega|rfl) only[go_sem,zA,zB,zC,eq_false h4]
   have:=tail x4 (vb false) (vb false)
   simp(disch:=first|omega|rfl) only[go_sem,zC] at this
   exact this
 by_cases l1:(lm:Int)<1
 .rcases K with⟨k1,k2⟩ | ⟨k1,k2⟩ <;>
   (simp(disch:=first|omega|rfl) only[go_sem,eA,nA,eB,nb,eC,xC,k1,k2,eq_true l1]
    unfold jgz
    simp(disch:=first|omega|rfl) only[go_sem]
    exact .no (by decide) G)
 by_cases l5:5<(lm:Int)
 .rcases K with⟨k1,k2⟩ | ⟨k1,k2⟩ <;>
   (simp(disch:=first|omega|rfl) only[go_sem,eA,nA,eB,nb,eC,xC,k1,k2,eq_false l1,eq_true l5]
    unfold jgz
    simp(disch:=first|omega|rfl) only[go_sem]
    exact .no (by decide) G)
 rcases K with⟨k1,k2⟩ | ⟨k1,k2⟩ <;>
  (simp(disch:=first|omega|rfl) only[go_sem,eA,nA,eB,nb,eC,xC,k1,k2,eq_false l1,eq_false l5]
   refine key _ _ _ _ (fun fr h' e he h0 g=>?_) (fun x4 x5 x7 h' hv g=>?_)
   .simp (disch:=first|omega|rfl) only[go_sem,he]
    exact .no h0 g
   .simp (disch:=first|omega|rfl) only[go_sem]
    exact .yes ⟨hk,hv⟩ g)
end
noncomputable def j3b (neg agg:Bool) (sig:List Bool) (x y:Option AV):Option AV:=ob x (fun a=>ob y (fun b=>jru agg a (fun xs=>jru agg b (fun ys=>ob (jav sig xs ys) (fun e=>some (AV.s (SV.bool (oif neg (jfb e) e))))))))
theorem jg0 {neg:Bool} {sig:List Bool} {x y:Od}:pop st fr (.eqv neg agg sig x y)=j3b neg agg sig (ev st fr x) (ev st fr y):=rfl
theorem jvq {a b c d:Int}:j3b false true [false,false] (some (.agg [.int .i64 a,.int .i64 b])) (some (.agg [.int .i64 c,.int .i64 d]))=some (vb (decide (a=c/\b=d))):=by
 show some (AV.s (SV.bool (oif (ieq a c) (oif (ieq b d) true false) false)))=_
 rw[jb8,jb8]
 by_cases h1:a=c<;>by_cases h2:b=d<;>simp[h1,h2,jaj]
section
variable {F:Fns} (S:SF F)
include S
theorem qnx (ok:Ok h) {f:Fc} {x:Ms.Ins} {o:Ms.Opd} (hx:∀ u∈x.ops,OpT f u) (ho:o.value<f.values.length) :
 WC F 66 [FA f,XA x,OA o] h (jxw (o.n<x.ops.length) h):=by
 obtain⟨kd,vl,lt,lm,n⟩:=o
 simp only at ho
 refine jan (S.X _ (by simp) _ _) ((S.T _).trans qhx) rfl ?_
 unfold j10
 obtain⟨hA,eA,gA,nA,xA⟩:=bxG ok [jag jak f.values,jag jax f.blocks] 29
 obtain⟨hB,eB,gB,nB,xB⟩:=bxG gA.ok [si x.op,jag jbc x.ops,jag jcu x.spoils] 73
 obtain⟨hC,eC,gC,nC,xC⟩:=bxG gB.ok [si kd,si vl,.bool lt,si lm,si n] 92
 have okA:=gA.ok
 have okB:=gB.ok
 have okC:=gC.ok
 have G:=gA.trans (gB.trans gC)
 have nb:hB.next=h.next+2:=by omega
 have nc:hC.next=h.next+3:=by omega
 have yA:=(gC.g h.next (by omega)).trans ((gB.g h.next (by omega)).trans xA)
 rw[nA] at xB
 have yB:=(gC.g (h.next+1) (by omega)).trans xB
 rw[nb] at xC
 have l1:=jad (enc:=jbc) (l:=x.ops)
 have n0:((n:Int)<0)=False:=eq_false (by omega)
 by_cases c2:(x.ops.length:Int)<=(n:Int)
 .simp (disch:=first|omega|rfl) only[go_sem,eA,eB,eC,nA,nb,yB,xC,l1,n0,eq_true c2]
  exact .no (by decide) G
 simp(disch:=first|omega|rfl) only[go_sem,eA,eB,eC,nA,nb,yB,xC,l1,n0,eq_false c2]
 have hnl:n<x.ops.length:=by omega
 obtain⟨⟨ukd,uvl,ult,ulm,un⟩,hu⟩:∃ u,x.ops[n]?=some u:=⟨_,f0b hnl⟩
 have hu2:=(hx _ (f0c hu)).v
 simp only at hu2
 have ix:=jaf (enc:=jbc) (size:=5) hu rfl
 obtain⟨hD,eD,gD,nD,xD⟩:=nwG okC [.int .i64 0,.int .i64 0,.bool false,.int .i64 0,.int .i64 0] [si ukd,si uvl,.bool ult,si ulm,si un] 92
 have okD:=gD.ok
 rw[nc] at eD xD
 have GD:=G.trans gD
 have zA:=(gD.g h.next (by omega)).trans yA
 have zC:=(gD.g (h.next+2) (by omega)).trans xC
 have i1:=jaf (enc:=jak) (size:=1) (jrq hu2) rfl
 have i2:=jaf (enc:=jak) (size:=1) (jrq ho) rfl
 unfold ju4
 by_cases c3:(ukd:Int)=1
 .have c3':((ukd:Int)≠1)=False:=eq_false (fun h=>h c3)
  cases ult with
  | true =>
   simp(disch:=first|omega|rfl) only[go_sem,yB,xC,ix,jbc,nc,eD,xD,c3']
   exact .no (by decide) GD
  | false =>
   simp(disch:=first|omega|rfl) only[go_sem,yB,xC,ix,jbc,nc,eD,xD,c3']
   unfold ju3 ju2 ju1
   by_cases c4:(cv f.values uvl:Int)=(cv f.values vl:Int)
   .have c4':((cv f.values uvl:Int)≠(cv f.values vl:Int))=False:=eq_false (fun h=>h c4)
    simp(disch:=first|omega|rfl) only[go_sem,xD,zA,zC,jak,i1,i2,c4']
    exact .yes hnl GD
   .have c4':((cv f.values uvl:Int)≠(cv f.values vl:Int))=True:=eq_true c4
    simp(disch:=first|omega|rfl) only[go_sem,xD,zA,zC,jak,i1,i2,c4']
    exact .no (by decide) GD
 .have c3':((ukd:Int)≠1)=True:=eq_true c3
  simp(disch:=first|omega|rfl) only[go_sem,yB,xC,ix,jbc,nc,eD,xD,c3']
  exact .no (by decide) GD
theorem j93 {bm:Nat} {m:Nat×Nat} {l:List (Nat×Nat)} (hl:l.length<=10000) :
 ∀ (d i:Nat) (_:i+d=l.length) {hi:Hp} (_:Ok hi) (_:bm<hi.next) (_:hi.get bm=some (.arr [si m.1,si m.2] 25)) {x3 x4 x5 x7 x9:AV}
  (hQ:∀ hj x3 x4 x5 x7 x9,Gw hi hj->Q (.exit 0) (.mk [x0,.s (jag jcu l),x2,x3,x4,x5,.s (.ptr bm 0),x7,.s (jag jcu l),x9,vi l.length,vi l.length] hj))
  (hR:∀ fr hj (e:Int),jbp fr 2=some (vi e)->e≠0->Gw hi hj->Q .ret (.mk fr hj)),
  W F jh8.loop (.mk [x0,.s (jag jcu l),x2,x3,x4,x5,.s (.ptr bm 0),x7,.s (jag jcu l),x9,vi l.length,vi i] hi) Q
 | 0,i,hd,hi,ok,hb,xb,x3,x4,x5,x7,x9,hQ,hR=>by
  obtain rfl:i=l.length:=by omega
  rw[jae]
  unfold jh8
  simp(disch:=first|omega|rfl) only[go_sem,f0q]
  exact hQ hi _ _ _ _ _ (.self ok)
 | d+1,i,hd,hi,ok,hb,xb,x3,x4,x5,x7,x9,hQ,hR=>by
  have hlt:(i:Int)<l.length:=by omega
  obtain⟨⟨c,n⟩,hget⟩:∃ x,l[i]?=some x:=⟨_,f0b (by omega)⟩
  have hix:=jaf (enc:=jcu) (size:=2) hget rfl
  have hs:(i:Int)+1=((i+1:Nat):Int):=by omega
  obtain⟨hA,eA,gA,nA,xA⟩:=nwG ok [.int .i64 0,.int .i64 0] (jcu (c,n)) 94
  have okA:=gA.ok
  have yb:=(gA.g _ hb).trans xb
  unfold jcu at xA eA
  simp only at xA eA
  have c1:((c:Int)<0)=False:=by simp
  have c3:((n:Int)<0)=False:=by simp
  have rcs:∀ (x3 x4 x5 x7 x9:AV),W F jh8.loop (.mk [x0,.s (jag jcu l),x2,x3,x4,x5,.s (.ptr bm 0),x7,.s (jag jcu l),x9,vi l.length,vi ((i+1:Nat):Int)] hA) Q:=fun x3 x4 x5 x7 x9=>j93 hl d (i+1) (by omega) okA (by omega) yb (fun hj x3 x4 x5 x7 x9 g=>hQ hj x3 x4 x5 x7 x9 (gA.trans g)) (fun fr hj e h1 h2 g=>hR fr hj e h1 h2 (gA.trans g))
  rw[jae]
  unfold jh8 ju6 ju5
  by_cases c2:(2<=(c:Int))
  .simp (disch:=first|omega|rfl) only[go_sem,jac,eq_true hlt,hix,jcu,eA,xA,c1,eq_true c2,c3]
   exact hR _ _ 2 rfl (by decide) gA
  obtain⟨g,rdm⟩:∃ g:Nat,rdB (some (.arr [si m.1,si m.2] 25)) c 1=some [si g]:=by
   have:c=0∨c=1:=by omega
   rcases this with rfl | rfl
   .exact ⟨m.1,rfl⟩
   .exact ⟨m.2,rfl⟩
  have hxa:=jj9 (n:=2) (size:=1) (b:=bm) (off:=0) (m:=c) (by omega)
  rw[f0y,f2w] at hxa
  by_cases c4:(g:Int)<=(n:Int)
  .simp (disch:=first|omega|rfl) only[go_sem,jac,eq_true hlt,hix,jcu,eA,xA,c1,eq_false c2,c3,hxa,yb,rdm,eq_true c4]
   exact hR _ _ 2 rfl (by decide) gA
  simp(disch:=first|omega|rfl) only[go_sem,jac,eq_true hlt,hix,jcu,eA,xA,c1,eq_false c2,c3,hxa,yb,rdm,eq_false c4]
  cases i with
  | zero =>
   unfold jos jor
   simp(disch:=first|omega|rfl) only[go_sem,jac,hix,jcu,eA,xA,hs,f0q]
   exact rcs _ _ _ _ _
  | succ j =>
   obtain⟨⟨pc,pn⟩,hp⟩:∃ x,l[j]?=some x:=⟨_,f0b (by omega)⟩
   have hpx:=jaf (enc:=jcu) (size:=2) hp rfl
   have p0:(0<((j+1:Nat):Int))=True:=eq_true (by omega)
   have p1:((j+1:Nat):Int) - 1=(j:Int):=by omega
   unfold jos jor
   by_cases q1:((c:Int)<(pc:Int))
   .simp (disch:=first|omega|rfl) only[go_sem,jac,hix,hpx,jcu,eA,xA,p0,p1,eq_true q1]
    exact hR _ _ 4 rfl (by decide) gA
   .by_cases q2:((pc:Int)=(c:Int))
    .by_cases q3:((n:Int)<=(pn:Int))
     .simp (disch:=first|omega|rfl) only[go_sem,jac,hix,hpx,jcu,eA,xA,p0,p1,eq_false q1,eq_true q2,eq_true q3]
      exact hR _ _ 4 rfl (by decide) gA
     .simp (disch:=first|omega|rfl) only[go_sem,jac,hix,hpx,jcu,eA,xA,hs,p0,p1,eq_false q1,eq_true q2,eq_false q3]
      exact rcs _ _ _ _ _
    .simp (disch:=first|omega|rfl) only[go_sem,jac,hix,hpx,jcu,eA,xA,hs,p0,p1,eq_false q1,eq_false q2]
     exact rcs _ _ _ _ _
theorem qny (ok:Ok h) {m:Nat×Nat} {l:List (Nat×Nat)} (hl:l.length<=10000):WC F 67 [MA m,.s (jag jcu l)] h (jxw True h):=by
 refine jan (S.X _ (by simp) _ _) ((S.T _).trans qhy) rfl ?_
 unfold j11
 obtain⟨hA,eA,gA,nA,xA⟩:=bxG ok [si m.1,si m.2] 25
 have okA:=gA.ok
 have l1:=jad (enc:=jcu) (l:=l)
 simp(disch:=first|omega|rfl) only[go_sem,eA,xA,l1]
 refine j93 S hl l.length 0 (by omega) okA (by omega) xA (fun hj x3 x4 x5 x7 x9 g=>?_) (fun fr hj e h1 h2 g=>?_)
 .simp (disch:=first|omega|rfl) only[go_sem]
  exact .yes trivial (gA.trans g)
 .simp (disch:=first|omega|rfl) only[go_sem,h1]
  exact .no h2 (gA.trans g)
def jxx (h:Hp):AV->Hp->Prop:=fun v h'=>∃ b:Bool,v=vb b/\Gw h h'
theorem j94 (ok:Ok h) {a b:Ms.Opd} (ha:a.kind=1) (hb:b.kind=1∨b.kind=2):WC F 78 [OA a,OA b] h (jxx h):=by
 obtain⟨kd,vl,lt,lm,n⟩:=a
 obtain⟨ukd,uvl,ult,ulm,un⟩:=b
 simp only at ha hb
 refine jan (S.X _ (by simp) _ _) ((S.T _).trans j9i) rfl ?_
 unfold jta
 obtain⟨hA,eA,gA,nA,xA⟩:=bxG ok [si kd,si vl,.bool lt,si lm,si n] 92
 obtain⟨hB,eB,gB,nB,xB⟩:=bxG gA.ok [si ukd,si uvl,.bool ult,si ulm,si un] 92
 have okA:=gA.ok
 have okB:=gB.ok
 have G:=gA.trans gB
 have yA:=(gB.g h.next (by omega)).trans xA
 rw[nA] at xB
 have a1:((kd:Int)=1)=True:=eq_true (by omega)
 have a2:((kd:Int)=2)=False:=eq_false (by omega)
 by_cases e1:ukd=1
 .have b1:((ukd:Int)=1)=True:=eq_true (by omega)
  simp(disch:=first|omega|rfl) only[go_sem,eA,nA,eB,xB,yA,a1,b1]
  exact⟨_,rfl,G⟩
 .have b1:((ukd:Int)=1)=False:=eq_false (by omega)
  cases lt<;>cases ult<;>(simp(disch:=first|omega|rfl) only[go_sem,eA,nA,eB,xB,yA,a1,a2,b1];exact⟨_,rfl,G⟩)
theorem qln (ok:Ok h) {a b:Ms.Opd} (ha:a.kind=1∨a.kind=2) (hb:b.kind=1∨b.kind=2):WC F 78 [OA a,OA b] h (jxx h):=by
 rcases ha with ha | ha
 .exact j94 S ok ha hb
 .obtain ⟨kd,vl,lt,lm,n⟩:=a
  obtain⟨ukd,uvl,ult,ulm,un⟩:=b
  simp only at ha hb
  refine jan (S.X _ (by simp) _ _) ((S.T _).trans j9i) rfl ?_
  unfold jta
  obtain⟨hA,eA,gA,nA,xA⟩:=bxG ok [si kd,si vl,.bool lt,si lm,si n] 92
  obtain⟨hB,eB,gB,nB,xB⟩:=bxG gA.ok [si ukd,si uvl,.bool ult,si ulm,si un] 92
  have okA:=gA.ok
  have okB:=gB.ok
  have G:=gA.trans gB
  have yA:=(gB.g h.next (by omega)).trans xA
  rw[nA] at xB
  have a1:((kd:Int)=1)=False:=eq_false (by omega)
  have a2:((kd:Int)=2)=True:=eq_true (by omega)
  rcases hb with hb | hb
  .have b2:((ukd:Int)=2)=False:=eq_false (by omega)
   simp(disch:=first|omega|rfl) only[go_sem,eA,nA,eB,xB,yA,a1,a2,b2]
   refine WC.imp (j94 S okB (a:=⟨ukd,uvl,ult,ulm,un⟩) (b:=⟨kd,vl,lt,lm,n⟩) hb (.inr ha)) ?_
   rintro _ h' ⟨t,rfl,g⟩
   simp(disch:=first|omega|rfl) only[go_sem]
   exact⟨_,rfl,G.trans g⟩
  .have b2:((ukd:Int)=2)=True:=eq_true (by omega)
   simp(disch:=first|omega|rfl) only[go_sem,eA,nA,eB,xB,yA,a1,a2,b2]
   exact⟨_,rfl,G⟩
theorem qmr (ok:Ok h) {f:Fc} {x:Ms.Ins} {o:Ms.Opd} (hx:∀ u∈x.ops,OpT f u) (ho:OpT f o) (hr:o.limit=5->o.n<x.ops.length) :
 WC F 76 [FA f,XA x,OA o] h (fun v h'=>∃ (a b:Nat) (t:Bool),v=.tup [(true,[si a,si b]),(false,[.bool t])]/\Gw h h'):=by
 obtain⟨kd,vl,lt,lm,n⟩:=o
 have ho:=ho.v
 simp only at ho hr
 refine jan (S.X _ (by simp) _ _) ((S.T _).trans qhz) rfl ?_
 unfold j12
 obtain⟨hA,eA,gA,nA,xA⟩:=bxG ok [jag jak f.values,jag jax f.blocks] 29
 obtain⟨hB,eB,gB,nB,xB⟩:=bxG gA.ok [si x.op,jag jbc x.ops,jag jcu x.spoils] 73
 obtain⟨hC,eC,gC,nC,xC⟩:=bxG gB.ok [si kd,si vl,.bool lt,si lm,si n] 92
 obtain⟨hD,eD,gD,nD,xD⟩:=bxG gC.ok [si 0,si 0] 94
 have okA:=gA.ok
 have okB:=gB.ok
 have okC:=gC.ok
 have okD:=gD.ok
 have G:=gA.trans (gB.trans (gC.trans gD))
 have nb:hB.next=h.next+2:=by omega
 have nc:hC.next=h.next+3:=by omega
 have yA:=(gD.g h.next (by omega)).trans ((gC.g h.next (by omega)).trans ((gB.g h.next (by omega)).trans xA))
 rw[nA] at xB
 have yB:=(gD.g (h.next+1) (by omega)).trans ((gC.g (h.next+1) (by omega)).trans xB)
 rw[nb] at xC
 have yC:=(gD.g (h.next+2) (by omega)).trans xC
 rw[nc] at xD
 have main:∀ (x2 x3 x6:AV) (b8:Bool) (hh:Hp) (kd vl lm n:Nat) (lt:Bool) (Q:AV->Hp->Prop),vl<f.values.length->Gw h hh->hh.next=h.next+4->hh.get h.next=some (.arr [jag jak f.values,jag jax f.blocks] 29)->hh.get (h.next+2)=some (.arr [si kd,si vl,.bool lt,si lm,si n] 92)->hh.get (h.next+3)=some (.arr [si 0,si 0] 94) ->
  (∀ (a b:Nat) (t:Bool) h',Gw h h'->Q (.tup [(true,[si a,si b]),(false,[.bool t])]) h')->W F jot (.mk [FA f,XA x,x2,x3,.s (.ptr h.next 0),.s (.ptr (h.next+3) 0),x6,.s (.ptr (h.next+1) 0),vb b8,.s (.ptr (h.next+2) 0)] hh) (j56 [.cell 5 2 true,.tmp 3] Q):=fun x2 x3 x6 b8 hh kd vl lm n lt Q hv G nh zA zC zD hQ=>by
  have okh:=G.ok
  have i1:=jaf (enc:=jak) (size:=1) (jrq hv) rfl
  unfold jot
  by_cases h4:(lm:Int)=4
  .have h4':((lm:Int)≠4)=False:=eq_false (fun h=>h h4)
   obtain⟨hE,eE,okE,nE,xE,gE⟩:=pt1 okh (b:=h.next+3) (by omega) (some (.arr [si (cv f.values vl),si n] 94))
   simp(disch:=first|omega|rfl) only[go_sem,zC,h4']
   unfold ju8 ju7
   simp(disch:=first|omega|rfl) only[go_sem,zA,zC,zD,jak,i1,eE,xE]
   exact hQ _ _ _ _ ⟨okE,by have:=G.nx;omega,fun k hk=>(gE k (by omega)).trans (G.g k hk)⟩
  .have h4':((lm:Int)≠4)=True:=eq_true h4
   obtain⟨hE,eE,okE,nE,xE,gE⟩:=pt1 okh (b:=h.next+3) (by omega) (some (.arr [si 0,si 0] 94))
   simp(disch:=first|omega|rfl) only[go_sem,zC,zD,h4',eE,xE]
   exact hQ 0 0 _ _ ⟨okE,by have:=G.nx;omega,fun k hk=>(gE k (by omega)).trans (G.g k hk)⟩
 by_cases h5:(lm:Int)=5
 .have hnl:=hr (by omega)
  obtain⟨⟨ukd,uvl,ult,ulm,un⟩,hu⟩:∃ u,x.ops[n]?=some u:=⟨_,f0b hnl⟩
  have hu2:=(hx _ (f0c hu)).v
  simp only at hu2
  have ix:=jaf (enc:=jbc) (size:=5) hu rfl
  obtain⟨hE,eE,okE,nE,xE,gE⟩:=pt1 okD (b:=h.next+2) (by omega) (some (.arr [si ukd,si uvl,.bool ult,si ulm,si un] 92))
  simp(disch:=first|omega|rfl) only[go_sem,eA,nA,eB,nb,eC,nc,eD,yB,yC,eq_true h5,ix,jbc,eE]
  have GE:Gw h hE:=⟨okE,by have:=G.nx;omega,fun k hk=>(gE k (by omega)).trans (G.g k hk)⟩
  exact main _ _ _ _ hE ukd uvl ulm un ult _ hu2 GE (by omega) ((gE _ (by omega)).trans yA) xE ((gE _ (by omega)).trans xD) (fun a b t h' g=>⟨a,b,t,rfl,g⟩)
 .simp (disch:=first|omega|rfl) only[go_sem,eA,nA,eB,nb,eC,nc,eD,yB,yC,eq_false h5]
  exact main _ _ _ _ hD kd vl lm n lt _ ho G (by omega) yA yC xD (fun a b t h' g=>⟨a,b,t,rfl,g⟩)
end
section
variable {F:Fns} (S:SF F)
theorem qh7 {l:List (Nat×Nat)} (hl:l.length<=10000) {a b:Nat} {bb:Nat} :
 ∀ (d i:Nat) (_:i+d=l.length) {hi:Hp} (_:Ok hi) (_:hi.get bb=some (.arr [si a,si b] 94)) {x2 x3 x4 x6:AV}
  (hQ:∀ x3 x4 x6,Q (.exit 0) (.mk [.s (jag jcu l),x1,x2,x3,x4,.s (.ptr bb 0),x6,vi l.length,vi l.length] hi))
  (hR:∀ fr (e:Int),jbp fr 2=some (vi e)->Q .ret (.mk fr hi)),
  W F jke.loop (.mk [.s (jag jcu l),x1,x2,x3,x4,.s (.ptr bb 0),x6,vi l.length,vi i] hi) Q
 | 0,i,hd,hi,ok,xb,x2,x3,x4,x6,hQ,hR=>by
  obtain rfl:i=l.length:=by omega
  rw[jae]
  unfold jke
  simp(disch:=first|omega|rfl) only[go_sem,f0q]
  exact hQ _ _ _
 | d+1,i,hd,hi,ok,xb,x2,x3,x4,x6,hQ,hR=>by
  have hlt:(i:Int)<l.length:=by omega
  obtain⟨⟨c,n⟩,hget⟩:∃ x,l[i]?=some x:=⟨_,f0b (by omega)⟩
  have hix:=jaf (enc:=jcu) (size:=2) hget rfl
  have hs:(i:Int)+1=((i+1:Nat):Int):=by omega
  rw[jae]
  unfold jke jvg jvf
  by_cases c1:((a:Int)=(c:Int)/\(b:Int)=(n:Int))
  .simp (disch:=first|omega|rfl) only[go_sem,jac,eq_true hlt,hix,jcu,xb,jg0,jvq,eq_true c1]
   exact hR _ _ rfl
  .have c1':(((c:Int)=(a:Int))/\((n:Int)=(b:Int)))=False:=eq_false (fun h=>c1 ⟨h.1.symm,h.2.symm⟩)
   simp(disch:=first|omega|rfl) only[go_sem,jac,eq_true hlt,hix,jcu,xb,jg0,jvq,eq_false c1,c1',hs]
   exact qh7 hl d (i+1) (by omega) ok xb hQ hR
include S
theorem jix (ok:Ok h) {l:List (Nat×Nat)} (hl:l.length<=10000) {a b:Nat}:WC F 82 [.s (jag jcu l),.agg [si a,si b]] h (fun v h'=>∃ e:Int,v=vi e/\Gw h h'):=by
 refine jan (S.X _ (by simp) _ _) ((S.T _).trans qh2) rfl ?_
 unfold j2t
 obtain⟨hA,eA,gA,nA,xA⟩:=bxG ok [si a,si b] 94
 have okA:=gA.ok
 have l1:=jad (enc:=jcu) (l:=l)
 simp(disch:=first|omega|rfl) only[go_sem,eA,l1]
 refine qh7 hl l.length 0 (by omega) okA xA (fun x3 x4 x6=>?_) (fun fr e he=>?_)
 .simp (disch:=first|omega|rfl) only[go_sem]
  exact⟨_,rfl,gA⟩
 .simp (disch:=first|omega|rfl) only[go_sem,he]
  exact⟨_,rfl,gA⟩
theorem jct (ok:Ok h) {l:List (Nat×Nat)} (hl:l.length<=10000) {a b:Nat}:WC F 77 [.s (jag jcu l),.agg [si a,si b]] h (jxx h):=by
 refine jan (S.X _ (by simp) _ _) ((S.T _).trans qlf) rfl ?_
 unfold j9q
 obtain⟨hA,eA,gA,nA,xA⟩:=bxG ok [si a,si b] 94
 have okA:=gA.ok
 simp(disch:=first|omega|rfl) only[go_sem,eA,xA]
 refine WC.imp (jix S okA hl) ?_
 rintro _ h' ⟨e,rfl,g⟩
 simp(disch:=first|omega|rfl) only[go_sem]
 exact⟨_,rfl,gA.trans g⟩
omit S in
theorem j3c {l:List (Nat×Nat)} (hl:l.length<=10000) {x6 x7:AV} :
 ∀ (d i:Nat) (_:i+d=l.length) {hi:Hp} (_:Ok hi) {s:Nat} (_:s<=i) {x14 x15 x17:AV}
  (hQ:∀ hj s x14 x15 x17,s<=l.length->Gw hi hj->Q (.exit 0) (.mk [x0,x1,x2,vi (c:Int),x4,x5,x6,x7,x8,x9,x10,x11,x12,vi (s:Nat),x14,x15,.s (jag jcu l),x17,vi l.length,vi l.length,x20] hj)),
  W F ju9.loop (.mk [x0,x1,x2,vi (c:Int),x4,x5,x6,x7,x8,x9,x10,x11,x12,vi (s:Nat),x14,x15,.s (jag jcu l),x17,vi l.length,vi i,x20] hi) Q
 | 0,i,hd,hi,ok,s,hsi,x14,x15,x17,hQ=>by
  obtain rfl:i=l.length:=by omega
  rw[jae]
  unfold ju9
  simp(disch:=first|omega|rfl) only[go_sem,f0q]
  exact hQ hi s _ _ _ hsi (.self ok)
 | d+1,i,hd,hi,ok,s,hsi,x14,x15,x17,hQ=>by
  have hlt:(i:Int)<l.length:=by omega
  obtain⟨⟨q,n⟩,hget⟩:∃ x,l[i]?=some x:=⟨_,f0b (by omega)⟩
  have hix:=jaf (enc:=jcu) (size:=2) hget rfl
  have hs:(i:Int)+1=((i+1:Nat):Int):=by omega
  have hs2:(s:Int)+1=((s+1:Nat):Int):=by omega
  obtain⟨hA,eA,gA,nA,xA⟩:=nwG ok [.int .i64 0,.int .i64 0] (jcu (q,n)) 94
  have okA:=gA.ok
  unfold jcu at xA eA
  simp only at xA eA
  rw[jae]
  unfold ju9 j9k
  by_cases c1:((q:Int)=(c:Int))
  .simp (disch:=first|omega|rfl) only[go_sem,jac,eq_true hlt,hix,jcu,eA,xA,eq_true c1,hs,hs2]
   exact j3c hl d (i+1) (by omega) okA (s:=s+1) (by omega) (fun hj s x14 x15 x17 h1 g=>hQ hj s x14 x15 x17 h1 (gA.trans g))
  .simp (disch:=first|omega|rfl) only[go_sem,jac,eq_true hlt,hix,jcu,eA,xA,eq_false c1,hs]
   exact j3c hl d (i+1) (by omega) okA (s:=s) (by omega) (fun hj s x14 x15 x17 h1 g=>hQ hj s x14 x15 x17 h1 (gA.trans g))
omit S in
theorem j95 {f:Fc} {l:List Ms.Opd} (hl:l.length<=10000) (hx:∀ u∈l,OpT f u) {bf:Nat} {x18 x19:AV} :
 ∀ (d i:Nat) (_:i+d=l.length) {hi:Hp} (_:Ok hi) (_:bf<hi.next) (_:hi.get bf=some (.arr [jag jak f.values,jag jax f.blocks] 29)) {s:Nat} (_:s<=10000+i) {x6 x7 x10:AV}
  (hQ:∀ hj s x6 x7 x10,s<=30000->Gw hi hj->Q (.exit 2) (.mk [x0,x1,x2,vi (c:Int),x4,x5,x6,x7,.s (.ptr bf 0),.s (jag jbc l),x10,vi l.length,vi l.length,vi (s:Nat),x14,x15,x16,x17,x18,x19,x20] hj)),
  W F jq9.loop (.mk [x0,x1,x2,vi (c:Int),x4,x5,x6,x7,.s (.ptr bf 0),.s (jag jbc l),x10,vi l.length,vi i,vi (s:Nat),x14,x15,x16,x17,x18,x19,x20] hi) Q
 | 0,i,hd,hi,ok,hb,xb,s,hsi,x6,x7,x10,hQ=>by
  obtain rfl:i=l.length:=by omega
  rw[jae]
  unfold jq9
  simp(disch:=first|omega|rfl) only[go_sem,f0q]
  exact hQ hi s _ _ _ (by omega) (.self ok)
 | d+1,i,hd,hi,ok,hb,xb,s,hsi,x6,x7,x10,hQ=>by
  have hlt:(i:Int)<l.length:=by omega
  obtain⟨⟨kd,vl,lt,lm,n⟩,hget⟩:∃ x,l[i]?=some x:=⟨_,f0b (by omega)⟩
  have hv:=(hx _ (f0c hget)).v
  simp only at hv
  have hix:=jaf (enc:=jbc) (size:=5) hget rfl
  have i1:=jaf (enc:=jak) (size:=1) (jrq hv) rfl
  have hs:(i:Int)+1=((i+1:Nat):Int):=by omega
  have hs2:(s:Int)+1=((s+1:Nat):Int):=by omega
  obtain⟨hA,eA,gA,nA,xA⟩:=nwG ok [.int .i64 0,.int .i64 0,.bool false,.int .i64 0,.int .i64 0] [si kd,si vl,.bool lt,si lm,si n] 92
  have okA:=gA.ok
  have yb:=(gA.g _ hb).trans xb
  have rcs:∀ (s:Nat) (x6 x7 x10:AV),s<=10000+(i+1)->W F jq9.loop (.mk [x0,x1,x2,vi (c:Int),x4,x5,x6,x7,.s (.ptr bf 0),.s (jag jbc l),x10,vi l.length,vi ((i+1:Nat):Int),vi (s:Nat),x14,x15,x16,x17,x18,x19,x20] hA) Q:=fun s x6 x7 x10 h1=>j95 hl hx d (i+1) (by omega) okA (by omega) yb h1 (fun hj s x6 x7 x10 h1 g=>hQ hj s x6 x7 x10 h1 (gA.trans g))
  rw[jae]
  unfold jq9 j9l
  by_cases c1:((cv f.values vl:Int)=(c:Int))
  .by_cases c2:(lm:Int)=1
   .have c2':((lm:Int)≠1)=False:=eq_false (fun h=>h c2)
    simp(disch:=first|omega|rfl) only[go_sem,jac,eq_true hlt,hix,jbc,eA,xA,yb,jak,i1,eq_true c1,c2',hs]
    exact rcs _ _ _ _ (by omega)
   .have c2':((lm:Int)≠1)=True:=eq_true c2
    by_cases c3:(lm:Int)=3
    .have c3':((lm:Int)≠3)=False:=eq_false (fun h=>h c3)
     simp(disch:=first|omega|rfl) only[go_sem,jac,eq_true hlt,hix,jbc,eA,xA,yb,jak,i1,eq_true c1,c2',c3',hs]
     exact rcs _ _ _ _ (by omega)
    .have c3':((lm:Int)≠3)=True:=eq_true c3
     simp(disch:=first|omega|rfl) only[go_sem,jac,eq_true hlt,hix,jbc,eA,xA,yb,jak,i1,eq_true c1,c2',c3',hs,hs2]
     exact rcs _ _ _ _ (by omega)
  .simp (disch:=first|omega|rfl) only[go_sem,jac,eq_true hlt,hix,jbc,eA,xA,yb,jak,i1,eq_false c1,hs]
   exact rcs _ _ _ _ (by omega)
theorem jnd (ok:Ok h) {f:Fc} {m:Nat×Nat} {x:Ms.Ins} (hl:x.ops.length<=10000) (hs:x.spoils.length<=10000) (hx:∀ u∈x.ops,OpT f u) (hc:c<2):WC F 69 [FA f,MA m,XA x,vi c] h (jxx h):=by
 refine jan (S.X _ (by simp) _ _) ((S.T _).trans qns) rfl ?_
 unfold qh0
 obtain⟨hA,eA,gA,nA,xA⟩:=bxG ok [jag jak f.values,jag jax f.blocks] 29
 obtain⟨hB,eB,gB,nB,xB⟩:=bxG gA.ok [si m.1,si m.2] 25
 obtain⟨hC,eC,gC,nC,xC⟩:=bxG gB.ok [si x.op,jag jbc x.ops,jag jcu x.spoils] 73
 have okA:=gA.ok
 have okB:=gB.ok
 have okC:=gC.ok
 have G:=gA.trans (gB.trans gC)
 have nb:hB.next=h.next+2:=by omega
 have yA:=(gC.g h.next (by omega)).trans ((gB.g h.next (by omega)).trans xA)
 rw[nA] at xB
 have yB:=(gC.g (h.next+1) (by omega)).trans xB
 rw[nb] at xC
 have l1:=jad (enc:=jbc) (l:=x.ops)
 have l2:=jad (enc:=jcu) (l:=x.spoils)
 have ix:∀ b,j4z 2 1 (.s (.ptr b 0)) (vi (c:Int))=some (.s (.ptr b c)):=fun b=>by
  have:c=0∨c=1:=by omega
  rcases this with rfl | rfl<;>rfl
 obtain⟨g,rdm⟩:∃ g:Nat,rdB (some (.arr [si m.1,si m.2] 25)) c 1=some [si g]:=by
  have:c=0∨c=1:=by omega
  rcases this with rfl | rfl
  .exact ⟨m.1,rfl⟩
  .exact ⟨m.2,rfl⟩
 simp(disch:=first|omega|rfl) only[go_sem,eA,nA,eB,nb,eC,xC,l2]
 have e0:vi (0:Int)=vi ((0:Nat):Int):=rfl
 refine j3c (s:=0) hs x.spoils.length 0 (by omega) okC (f0d _) (fun hD s x14 x15 x17 h1 gD=>?_)
 have okD:=gD.ok
 have zC:=(gD.g (h.next+2) (by omega)).trans xC
 have zA:=(gD.g h.next (by omega)).trans yA
 have zB:=(gD.g (h.next+1) (by omega)).trans yB
 simp(disch:=first|omega|rfl) only[go_sem,zC,l1]
 refine j95 hl hx x.ops.length 0 (by omega) okD (by have:=gD.nx;omega) zA (by omega) (fun hE s x6 x7 x10 h1 gE=>?_)
 have wB:=(gE.g (h.next+1) (by have:=gD.nx;omega)).trans zB
 simp(disch:=first|omega|rfl) only[go_sem,wB,ix,rdm]
 exact⟨_,rfl,G.trans (gD.trans gE)⟩
end
end Go.Proofs.Ytkplfnkgodnmaaa.Ev
