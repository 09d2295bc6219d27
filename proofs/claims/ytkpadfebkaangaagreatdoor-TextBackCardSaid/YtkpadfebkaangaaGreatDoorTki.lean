/- Read: lines one by one. -/
import Derived.Test.YtkpadfebkaangaaGreatDoorTka
import Derived.Test.YtkpadfebkaangaaGreatDoorCdM
import Derived.Test.YtkpadfebkaangaaGreatDoorSh2
import Derived.Test.YtkpadfebkaangaaGreatDoorGb
import Derived.Test.YtkpadfebkaangaaGreatDoorLz
namespace Go.Proofs.YtkpadfebkaangaaGreatDoor.Ev
noncomputable section
open Go Go.RowKit Go.Proofs.YtkpadfebkaangaaGreatDoor.Ms
set_option linter.all false
set_option maxRecDepth 100000
set_option maxHeartbeats 2000000
def FR (F:Fns):Fns:=BX noB qc8 (FTk F)
theorem TkF.upR {F:Fns} (f:TkF F):TkF (FR F):=f.up1.up  rfl fun _ _=>rfl
structure LnK (F:Fns) (ln:Nat) (s:Scr) (ws:List (List UInt8)) (s':Scr):Prop where
 n:(10:UInt8)∉jcx ws
 k:∀ p h,PtS p 0 h s ln->WC (FR F) 20 [.s (.ptr p 0),.s (.str (jcx ws))] h (qtw p h s' ln)
inductive Chain (F:Fns):Nat->Scr->List (List (List UInt8))->Scr->Prop
 | nil {ln:Nat} {s:Scr}:Chain F ln s [] s
 | cons {ln:Nat} {s s1 s':Scr} {ws:List (List UInt8)} {L:List (List (List UInt8))}:LnK F ln s ws s1->Chain F (ln+1) s1 L s'->Chain F ln s (ws::L) s'
theorem Chain.app {F:Fns} {ln:Nat} {s s1 s':Scr} {L M:List (List (List UInt8))} (a:Chain F ln s L s1) (b:Chain F (ln+L.length) s1 M s'):Chain F ln s (L++M) s':=by
 induction a with
 | nil=>grind
 | cons k _ ih=>exact .cons k (ih (by grind))
theorem j3m (ws:List (List UInt8)) (L:List (List (List UInt8))):txt (ws::L)=jcx ws++10::txt L:=by
 show jcx ws++[10]++txt L=_
 simp
section
variable {F:Fns} {p:Nat} {h:Hp}
theorem qci {h:Hp} {a r:List UInt8} (ha:(10:UInt8)∉a) (hl:(a++10::r).length<=4000000000):jqt 19 [.s (.str (a++10::r)),.s (.str [10])] h=some (.tup [(false,[.str a]),(false,[.str r]),(false,[.bool true])],h):=by
 show oif (Nat.ble (jb6 (a++10::r)) 4000000000) (ok (quw 10 (a++10::r)) h) none=_
 rw[jba,jbn hl]
 unfold quw
 rw[qbt ha];rfl
theorem qjw (f:TkF F) {x1 x2 x3 x4 x5 x12 x13:AV} {Q:Ex->St->Prop} {tail:List UInt8} {h0:Hp}:∀ {L:List (List (List UInt8))} {ln:Nat} {s s':Scr} (_:Chain F ln s L s') {h:Hp} (_:PtS p 0 h s ln) (_:(txt L++tail).length<=4000000000) (_:ln+L.length<=100000) (_:∀ n,n<p->h.get n=h0.get n) {x6 x7 x8 x10 x11:AV}
 (hQ:∀ h' x6 x7 x8 x10 x11,PtS p 0 h' s' (ln+L.length)->(∀ n,n<p->h'.get n=h0.get n)->W (FR F) jik.loop (.mk [.s (.str tail),x1,x2,x3,x4,x5,x6,x7,x8,.s (.ptr p 0),x10,x11,x12,x13] h') Q),
 W (FR F) jik.loop (.mk [.s (.str (txt L++tail)),x1,x2,x3,x4,x5,x6,x7,x8,.s (.ptr p 0),x10,x11,x12,x13] h) Q
 | [],ln,s,s',c,h,k,hl,hb,low,x6,x7,x8,x10,x11,hQ=>by
  cases c
  exact hQ h _ _ _ _ _ k low
 | ws::L,ln,s,s',c,h,k,hl,hb,low,x6,x7,x8,x10,x11,hQ=>by
  have fr:=f.upR
  rw[f0i] at hb
  cases c with
  | cons c1 c2 =>
  rename_i s1
  have et:txt (ws::L)++tail=jcx ws++10::(txt L++tail):=by rw[j3m];simp
  rw[et] at hl ⊢
  have okh:=k.ok
  have e1:eqO true (some (.s (.str (jcx ws++10::(txt L++tail))))) (some (.s (.str [])))=some (.s (.bool true)):=by
   rw[qb9]
   have:(jcx ws++10::(txt L++tail) == [])=false:=by rw[beq_eq_false_iff_ne];simp
   rw[this];rfl
  have i1:∀ (h:Hp) (Q:AV->Hp->Prop),WC (FR F) 19 [.s (.str (jcx ws++10::(txt L++tail))),.s (.str [10])] h Q=Q (.tup [(false,[.str (jcx ws)]),(false,[.str (txt L++tail)]),(false,[.bool true])]) h:=fun h Q=>jam (fr.lib _ _ _ _ (qci (h:=h) c1.n hl))
  rw[jai]
  unfold jik
  simp(disch:=go_num) only[go_sem,qca,e1]
  unfold j2x
  simp(disch:=go_num) only[go_sem,i1]
  refine WC.imp (c1.k p h k) ?_
  rintro _ h2 ⟨rfl,k2,low2,nx2⟩
  have ok2:=k2.ok
  obtain⟨a,b,cc,n1,n2,n3,g1,g2,g3,g4,g5,g6⟩:=k2.ex
  obtain⟨h3,e3,k3,nx3,q3⟩:=PtS.lay (s:=s1) ok2 k2.p1 g2 g3 g4 g5 g6 (ln+1)
  have ek:(ln:Int)+1=((ln+1:Nat):Int):=oa
  have p1:=k.p1
  unfold j2w
  simp(disch:=go_num) only[go_sem,g1,jad,ek,e3]
  refine qjw f c2 k3 (by simp at hl ⊢;omega) oa (fun n hn=>(q3 n oa).trans ((low2 n hn).trans (low n hn))) (fun h' y6 y7 y8 y10 y11 kk ll=>hQ h' y6 y7 y8 y10 y11 (by rw[f0i,Nat.add_comm L.length 1,←f1u];exact kk) ll)
end
def qt0:Scr:=⟨0,0,0,0,[],⟨[],[]⟩⟩
def z7:List SV:=Ze
def rdA (s:Scr):AV:=.tup [(true,jec s),(false,[si 0]),(false,[si 0])]
def rdT:IC:=.seq (qr [qM 9,qN,qG 7,qL,qQ 5 (.bin .lt qa (qC 3))] (.cond (.g 5) (.seq j2y .ret) .skip)) jt5
section
variable {F:Fns} {st fr:List AV} {es:List Ent} {h h2:Hp} {dst:Option Nat} {l:List (IOper×Option (List Nat))} {Q:Ex->St->Prop}
end
section
variable {F:Fns} {h:Hp}
theorem qo4 (f:TkF F) (ok:Ok h) {l:List UInt8} (hl:l.length<=60000) {R:AV->Hp->Prop}
 (hQ:∀ h2 x13,PtS (h.next+1) 0 h2 qt0 0->h2.get h.next=some (.arr z7 34)->W (FR F) (.seq (.block 0 (.loop jik)) rdT) (.mk [.s (.str l),vi 0,vi 0,.undef,.undef,.undef,.undef,.undef,.undef,.s (.ptr (h.next+1) 0),.undef,.undef,.s (.ptr h.next 0),x13] h2) (jqh [(.cell 12 7 true),(.tmp 2),(.tmp 1)] R)) :
 WC (FR F) 7 [.s (.str l)] h R:=by
 have fr:=f.upR
 refine jaz (fr.x _ rfl _ _) ((congrFun fr.t _).trans qtq) rfl ?_
 show W (FR F) jzu (.mk ([.s (.str l)]++jdq 13) h) _
 have pp:=ok.pos
 obtain⟨hA,eA,okA,nA,xA,gA⟩:=jdw ok z7 34
 obtain⟨hB,eB,okB,nB,xB,gB⟩:=jdw okA Zd 71
 rw[nA] at nB xB gB
 unfold z7 at eA
 have c1:((60000:Int)<(l.length:Int))=False:=eq_false oa
 have k0:PtS (h.next+1) 0 hB qt0 0:=⟨okB,⟨.nilSlice,.nilSlice,.nilSlice,[],[],[],xB,.nil,.nil,.nil,se,se⟩,oa⟩
 have sl:=jzn (l:=l) oa
 unfold jzu
 simp(disch:=go_num) only[go_sem,jce,jcf,jcg,ja1,jap,jch,ja2,eA,sl,c1]
 unfold j20
 simp(disch:=go_num) only[go_sem,eB,nA]
 have q:=hQ hB (.s (.bool false)) k0 ((gB h.next oa).trans xA)
 rw[j4v,jyn] at q
 exact q
theorem qt1 (f:TkF F) {L:List (List (List UInt8))} {s:Scr} (c:Chain F 0 qt0 L s) (ok:Ok h) (hl:(txt L).length<=60000) (hL:3<=L.length) (hL2:L.length<=90000) (hne:s.f.blocks≠[]) {kk:Bool}
 (hC:∀ h vs Q,ji5 [.agg vs]=false->jqm true h 4 [.agg vs]=some [.agg (jec s)]->WC (FR F) 10 [.agg vs] h Q=Q (vi 0) h) :
 WC (FR F) 7 [.s (.str (txt L))] h (fun v h'=>∃ d,jf9 kk h' d v=some (rdA s)):=by
 refine qo4 f ok hl (fun h2 x13 k2 z2=>?_)
 rw[j4v,jyn]
 have et:txt L=txt L++[]:=se
 rw[et]
 have pp:=ok.pos
 refine qjw f c k2 (by simp;omega) oa (fun _ _=>rfl) (fun h3 x6 x7 x8 x10 x11 k3 low=>?_)
 have ok3:=k3.ok
 rw[f1b] at k3
 obtain⟨a,b,cc,n1,n2,n3,g1,g2,g3,g4,g5,g6⟩:=k3.ex
 have z3:=(low h.next oa).trans z2
 have e1:eqO true (some (.s (.str []))) (some (.s (.str [])))=some (.s (.bool false)):=by rw[qb9];rfl
 have c1:((L.length:Int)<3)=False:=eq_false oa
 obtain⟨hA,eA,okA,nA,xA,gA⟩:=jxx ok3 (b:=h.next) pp (some (.arr [si s.m1,si s.m2,a,b,si s.seed,si s.steps,cc] 34))
 have fz:∀ kk hh,(∀ n∈n1++(n2++n3),hh.get n=h3.get n)->jgb (jfl kk hh 4) [si s.m1,si s.m2,a,b,si s.seed,si s.steps,cc]=some (jec s):=fun kk hh hk=>by
  have sa':=g2.keep (h':=hh) (fun n hn=>hk n (by simp[hn]))
  have sb':Sl hh 58 3 false (TxB hh) b s.f.blocks n2:=g3.imp (fun n hn=>hk n (by simp[hn])) (fun row a m hm e=>e.keep (fun n hn=>hk n (by simp[hm n hn])))
  have sc':=g4.keep (h':=hh) (fun n hn=>hk n (by simp[hn]))
  exact jau rfl (jau rfl (jau (sa'.frz (fun _ _ _ e=>EI.frz e) (fun _=>rfl)) (jau (sb'.frz (fun _ _ _ e=>TxB.frz e) (fun _=>rfl)) (jau rfl (jau rfl (jau (sc'.frz (fun _ _ _ e=>EI.frz e) (fun _=>rfl)) rfl))))))
 have gr:ji5 [.agg [si s.m1,si s.m2,a,b,si s.seed,si s.steps,cc]]=false:=by
  rcases g3 with⟨h3,_⟩ | ⟨_,bb,rows,nss,rfl,_⟩
  .exact absurd h3 hne
  .show oif (oif (grd a) false false) true false=false
   cases grd a<;>rfl
 have fC:jqm true h3 4 [.agg [si s.m1,si s.m2,a,b,si s.seed,si s.steps,cc]]=some [.agg (jec s)]:=by
  show ob (ob (jgb (jfl true h3 4) [si s.m1,si s.m2,a,b,si s.seed,si s.steps,cc]) (fun y=>some (AV.agg y))) (fun y=>ob (jqm true h3 4 []) (fun r=>some (y::r)))=_
  rw[fz true h3 (fun _ _=>rfl)]
  rfl
 have wC:=fun Q=>hC h3 _ Q gr fC
 rw[jai]
 unfold jik
 simp(disch:=go_num) only[go_sem,qca,e1]
 unfold rdT
 unfold z7 at z3
 simp(disch:=go_num) only[go_sem,g1,c1]
 unfold jt5
 simp(disch:=go_num) only[go_sem,g1,wC]
 unfold j2z
 simp(disch:=go_num) only[go_sem,g1,z3,eA,xA]
 refine⟨4,?_⟩
 show ob (ob (jgb (jfl kk hA 4) [si s.m1,si s.m2,a,b,si s.seed,si s.steps,cc]) (fun x=>ob (qc6 (jfl kk hA 4) [(false,[si 0]),(false,[si 0])]) (fun r=>some ((true,x)::r)))) (fun y=>some (AV.tup y))=_
 rw[fz kk hA (fun n hn=>gA n (by have:=g6 n hn;omega))]
 rfl
end
theorem qt2 {n:Nat} {w:List UInt8} (h:∃ b∈w,58<=b.toNat):(ito n == w)=false:=by
 rw[beq_eq_false_iff_ne]
 rintro rfl
 obtain⟨b,hb,h2⟩:=h
 rcases jt2 19 n [] b hb with h | h
 .grind
 omega
def qt3 (o:Ms.Opd):List (List UInt8):=(if o.late=true then [jqz] else [])++(ito o.value::lw o.limit::(if 4<=o.limit then [ito o.n] else []))
theorem qo5 (o:Ms.Opd):jxh o=kw o.kind::qt3 o:=rfl
structure OpT (o:Ms.Opd):Prop where
 k:1<=o.kind/\o.kind<=2
 l:1<=o.limit/\o.limit<=5
 v:o.value<1000000000
 n:o.n<1000000000
 z:o.limit<=3->o.n=0
theorem qt4 {k:Nat} (hk:1<=k/\k<=5):jk9 (lw k) LWs 0=k:=by
 obtain⟨h1,h2⟩:=hk
 match k,h1,h2 with
 | 1,_,_=>decide
 | 2,_,_=>decide
 | 3,_,_=>decide
 | 4,_,_=>decide
 | 5,_,_=>decide
theorem qt5 {k:Nat} (hk:1<=k/\k<=2):jk9 (kw k) KWs 0=k:=by
 obtain⟨h1,h2⟩:=hk
 match k,h1,h2 with
 | 1,_,_=>decide
 | 2,_,_=>decide
theorem qt6:jk9 jeq KWs 0=-1:=by decide
theorem qo6 {o:Ms.Opd} {r:List (List UInt8)}:jez (qt3 o++r)=(o.late,ito o.value::lw o.limit::((if 4<=o.limit then [ito o.n] else [])++r)):=by
 unfold qt3
 cases o.late with
 | true=>rfl
 | false =>
  show(if (ito o.value == jqz)=true then _ else _)=_
  rw[qt2 ⟨108,by decide,by decide⟩];rfl
theorem qt7 {o:Ms.Opd} {r:List (List UInt8)} (q:OpT o):jx0 o.kind (qt3 o++r) false=(jbc o,r,false):=by
 have h1:=q.l
 have e1:jdc (ito o.value)=((o.value:Int),false):=jeg (by have:=q.v;omega)
 have e2:jk9 (lw o.limit) LWs 0=o.limit:=qt4 q.l
 have e3:jdc (ito o.n)=((o.n:Int),false):=jeg (by have:=q.n;omega)
 unfold jx0
 rw[qo6]
 simp only[List.headD_cons,List.tail_cons,e1,e2]
 have d1:decide ((o.limit:Int)<1)=false:=by grind
 by_cases h4:4<=o.limit
 .rw [if_pos oa,if_pos h4]
  simp only[f1x,f1m,List.headD_cons,List.tail_cons,e3,d1]
  rfl
 .rw [if_neg oa,if_neg h4,d1]
  unfold jbc
  rw[q.z oa];rfl
theorem j3n {r:List (List UInt8)}:∀ {ops:List Ms.Opd} {n:Nat} {os:List (List SV)},(∀ o∈ops,OpT o)->((ops.map jxh).flatten++r).length<=n->∃ m,r.length<=m/\jr1 n os [] ((ops.map jxh).flatten++r) false=jr1 m (os++ops.map jbc) [] r false
 | [],n,os,_,hn=>⟨n,by grind,se⟩
 | o::ops,n,os,h,hn=>by
  have q:=h o se
  have e:((o::ops).map jxh).flatten++r=kw o.kind::(qt3 o++((ops.map jxh).flatten++r)):=by simp[f0u,f0t,qo5]
  rw[e] at hn ⊢
  cases n with
  | zero=>grind
  | succ n =>
   rw[f0i,f0d] at hn
   obtain⟨m,h1,h2⟩:=j3n (r:=r) (ops:=ops) (n:=n) (os:=os++[jbc o]) (fun o ho=>h o (by simp[ho])) oa
   refine⟨m,h1,?_⟩
   show(if 0<jk9 (kw o.kind) KWs 0/\([]:List (List SV)).length=0 then _ else _)=_
   have q1:=q.k
   rw[qt5 q.k,if_pos ⟨oa,rfl⟩,qt7 q,h2]
   simp
theorem j3o:∀ {sps:List (Nat×Nat)} {n:Nat} {os rs:List (List SV)},(∀ r∈sps,r.1<1000000000/\r.2<1000000000)->((sps.map jxy).flatten).length<=n->jr1 n os rs ((sps.map jxy).flatten) false=(os,rs++sps.map jcq,[],false)
 | [],0,os,rs,_,_=>by simp[jr1]
 | [],n+1,os,rs,_,_=>by simp[jr1]
 | p::sps,n,os,rs,h,hn=>by
  have e:((p::sps).map jxy).flatten=jeq::ito p.1::ito p.2::(sps.map jxy).flatten:=by rfl
  rw[e] at hn ⊢
  cases n with
  | zero=>grind
  | succ n =>
   rw[f0i,f0i,f0i] at hn
   obtain⟨b1,b2⟩:=h p se
   show(if 0<jk9 jeq KWs 0/\rs.length=0 then _ else if (jeq == jeq)=true then _ else _)=_
   rw[qt6,if_neg oa,if_pos se]
   simp only[List.headD_cons,List.tail_cons]
   rw[jeg oa,jeg oa]
   have:=j3o (sps:=sps) (n:=n) (os:=os) (rs:=rs++[jcq p]) (fun r hr=>h r (by simp[hr])) oa
   show jr1 n os (rs++[jcq p]) _ (false||false)=_
   rw[f18,this];simp
structure InT (x:Ms.Ins):Prop where
 op:x.op<1000000000
 o:∀ o∈x.ops,OpT o
 s:∀ r∈x.spoils,r.1<1000000000/\r.2<1000000000
theorem qt8 {x:Ms.Ins} (q:InT x):inS (ito x.op::((x.ops.map jxh).flatten++(x.spoils.map jxy).flatten)) false=((x.op:Int),x.ops.map jbc,x.spoils.map jcq,[],false):=by
 unfold inS
 rw[List.headD_cons,List.tail_cons,jeg (by have:=q.op;omega)]
 obtain⟨m,h1,h2⟩:=j3n (r:=(x.spoils.map jxy).flatten)  (n:=(ito x.op::((x.ops.map jxh).flatten++(x.spoils.map jxy).flatten)).length)  q.o se
 rw[f18,h2,j3o q.s h1];simp
structure Wg (w:List UInt8):Prop where
 d:Wd w
 k:Wk w
theorem Wg.ito {n:Nat} (hn:n<1000000000000000000):Wg (ito n):=⟨jp9 n,Wk.ito hn⟩
theorem Wg.kw {k:Nat} (hk:1<=k/\k<=2):Wg (kw k):=by
 obtain⟨h1,h2⟩:=hk
 match k,h1,h2 with
 | 1,_,_=>exact⟨⟨by decide,by decide⟩,Wk.of (by rfl) (by decide)⟩
 | 2,_,_=>exact⟨⟨by decide,by decide⟩,Wk.of (by decide) (by decide)⟩
theorem Wg.lw {k:Nat} (hk:1<=k/\k<=5):Wg (lw k):=by
 obtain⟨h1,h2⟩:=hk
 match k,h1,h2 with
 | 1,_,_=>exact⟨⟨by decide,by decide⟩,Wk.of (by rfl) (by decide)⟩
 | 2,_,_=>exact⟨⟨by decide,by decide⟩,Wk.of (by decide) (by decide)⟩
 | 3,_,_=>exact⟨⟨by decide,by decide⟩,Wk.of (by rfl) (by decide)⟩
 | 4,_,_=>exact⟨⟨by decide,by decide⟩,Wk.of ka (by decide)⟩
 | 5,_,_=>exact⟨⟨by decide,by decide⟩,Wk.of ka (by decide)⟩
theorem Wg.late:Wg jqz:=⟨⟨by decide,by decide⟩,Wk.of (by rfl) (by decide)⟩
theorem Wg.spoils:Wg jeq:=⟨⟨by decide,by decide⟩,Wk.of (by rfl) (by decide)⟩
theorem Wg.op:Wg wOp:=⟨⟨by decide,by decide⟩,Wk.of (by rfl) (by decide)⟩
theorem Wg.edge:Wg jxg:=⟨⟨by decide,by decide⟩,Wk.of (by rfl) (by decide)⟩
theorem Wg.block:Wg jgp:=⟨⟨by decide,by decide⟩,Wk.of (by rfl) (by decide)⟩
theorem Wg.run:Wg qbv:=⟨⟨by decide,by decide⟩,Wk.of (by rfl) (by decide)⟩
theorem Wg.mach:Wg jef:=⟨⟨by decide,by decide⟩,Wk.of (by rfl) (by decide)⟩
theorem Wg.vals:Wg jfi:=⟨⟨by decide,by decide⟩,Wk.of (by rfl) (by decide)⟩
theorem Wg.itos {l:List Nat} (h:∀ n∈l,n<1000000000000000000):∀ w∈l.map Ev.ito,Wg w:=fun w hw=>by
 obtain⟨n,hn,rfl⟩:=f1j.1 hw
 exact .ito (h n hn)
theorem Wg.opd {o:Ms.Opd} (q:OpT o):∀ w∈jxh o,Wg w:=fun w hw=>by
 unfold jxh at hw
 simp only[f0f,f0e] at hw
 rcases hw with rfl | hw | rfl | rfl | hw
 .exact .kw q.k
 .split at hw
  .obtain rfl:=f0v.1 hw;exact .late
  grind
 .exact .ito (by have:=q.v;omega)
 .exact .lw q.l
 .split at hw
  .obtain rfl:=f0v.1 hw;exact .ito (by have:=q.n;omega)
  grind
theorem Wg.ins {x:Ms.Ins} (q:InT x):∀ w∈jxz x,Wg w:=fun w hw=>by
 unfold jxz at hw
 simp only[f0f,f0e,List.mem_flatten,f1j] at hw
 rcases hw with rfl | rfl | ⟨_,⟨o,ho,rfl⟩,hw⟩ | ⟨_,⟨r,hr,rfl⟩,hw⟩
 .exact .op
 .exact .ito (by have:=q.op;omega)
 .exact .opd (q.o o ho) w hw
 .have:=q.s r hr
  simp only[jxy,f0f,f1e,or_false] at hw
  rcases hw with rfl | rfl | rfl
  .exact .spoils
  .exact .ito oa
  .exact .ito oa
theorem jk1 {ws:List (List UInt8)}:ws.length<=(jcx ws).length+1:=by
 have h:∀ l ,l.length<=(jdf l).length:=fun l=>by
  induction l with
  | nil=>simp
  | cons a l ih=>show l.length+1<=(32::a++jdf l).length;grind
 cases ws with
 | nil=>simp
 | cons a l=>show l.length+1<=(a++jdf l).length+1;grind
def sb (s:Scr) (l:List Ms.Blk):Scr:={ s with f:={ s.f with blocks:=l } }
structure BkT (b:Ms.Blk):Prop where
 p:∀ n∈b.params,n<1000000000
 i:∀ x∈b.instrs,InT x
 e:∀ e∈b.edges,e.block<1000000000/\∀ n∈e.args,n<1000000000
structure ScT (s:Scr):Prop where
 m:s.m1<1000000000/\s.m2<1000000000/\s.seed<1000000000000/\s.steps<1000000000000
 j:∀ n∈s.junk,n<1000000000000
 v:∀ n∈s.f.values,n<1000000000
 b:∀ b∈s.f.blocks,BkT b
section
variable {F:Fns} {s:Scr} {ln:Nat}
theorem qtx.takR {p:Nat} {h:Hp} {G:Prop} {b:Bool} {s:Scr} (hG:G) (hb:b=true) {v:AV} {h':Hp} (k:qtx p h G s ln b v h'):qtw p h s ln v h':=by
 obtain⟨rfl,k1,k2,k3,_⟩:=k
 subst hb
 exact⟨rfl,k1 hG,k2,k3⟩
theorem noW {ws:List (List UInt8)} (h:∀ w∈ws,Wg w):(10:UInt8)∉jcx ws:=qgv fun x hx=>(h x hx).d.2
theorem qg6 (f:TkF F) {a b:Nat} (ha:a<1000000000) (hb:b<1000000000):LnK F 0 s [jef,ito a,ito b] { s with m1:=a,m2:=b } :=
 ⟨noW (fun w hw=>by
  simp only[f0f,f1e,or_false] at hw
  rcases hw with rfl | rfl | rfl
  .exact .mach
  .exact .ito oa
  .exact .ito oa),fun p h k=>qg3 f k oa oa⟩
theorem qo7 (f:TkF F) {a b:Nat} {l:List Nat} (ha:a<1000000000000) (hb:b<1000000000000) (hl:∀ n∈l,n<1000000000000) (hj:(jcx (qbv::ito a::ito b::l.map ito)).length<=60000):LnK F 1 s (qbv::ito a::ito b::l.map ito) { s with seed:=a,steps:=b,junk:=l }:=by
 have hl':∀ n∈l,n<1000000000000000000:=fun n hn=>by grind
 refine⟨noW (fun w hw=>?_),fun p h k=>?_⟩
 .simp only[f0f] at hw
  rcases hw with rfl | rfl | rfl | hw
  .exact .run
  .exact .ito oa
  .exact .ito oa
  grind[Wg.itos]
 .have:=jk1 (ws:=qbv::ito a::ito b::l.map ito)
  simp only[f0i,f03] at this
  exact qo2 f rfl k oa oa hl' oa oa
theorem qg7 (f:TkF F) {l:List Nat} (hl:∀ n∈l,n<1000000000) (hj:(jcx (jfi::l.map ito)).length<=60000):LnK F 2 s (jfi::l.map ito) { s with f:={ s.f with values:=l } }:=by
 have hl':∀ n∈l,n<1000000000000000000:=fun n hn=>by grind
 refine⟨noW fun w hw=>?_,fun p h k=>?_⟩
 .simp only[f0f] at hw
  rcases hw with rfl | hw
  .exact .vals
  grind[Wg.itos]
 .have:=jk1 (ws:=jfi::l.map ito)
  simp only[f0i,f03] at this
  exact qg4 f rfl k hl' oa oa
theorem qo8 (f:TkF F) (h3:3<=ln) {L:List Ms.Blk} (hL:L.length<=10000) {l:List Nat} (hl:∀ n∈l,n<1000000000) (hj:(jcx (jgp::l.map ito)).length<=60000):LnK F ln (sb s L) (jgp::l.map ito) (sb s (L++[⟨l,[],[]⟩])):=by
 have hl':∀ n∈l,n<1000000000000000000:=fun n hn=>by grind
 have hw:∀ w∈jgp::l.map ito,Wg w:=fun w hw=>by
  simp only[f0f] at hw
  rcases hw with rfl | hw
  .exact .block
  grind[Wg.itos]
 refine⟨noW hw,fun p h k=>?_⟩
 have:=jk1 (ws:=jgp::l.map ito)
 simp only[f0i,f03] at this
 refine WC.imp (qo3 f h3 k (ws:=l.map ito) (l:=l) (je5 (fun x hx=>(hw x hx).d)) oa (fun w h=>(hw w (by simp[h])).k) (by simp;omega) hL) (fun v h' q=>q.takR ?_ ?_)
 .rw [jgr hl']
 grind[jgr]
theorem j3p {α:Type} {l:List α} {a b:α}:(l++[a]).set l.length b=l++[b]:=se
theorem qt9 (f:TkF F) (h3:3<=ln) {L:List Ms.Blk} (hL:L.length<10000) {b:Ms.Blk} (hb:b.instrs.length<=10000) (he:b.edges=[]) {x:Ms.Ins} (q:InT x) (hj:(jcx (jxz x)).length<=60000):LnK F ln (sb s (L++[b])) (jxz x) (sb s (L++[{ b with instrs:=b.instrs++[x] }])):=by
 refine⟨noW (Wg.ins q),fun p h k=>?_⟩
 have:=jk1 (ws:=jxz x)
 have e:jxz x=wOp::(ito x.op::((x.ops.map jxh).flatten++(x.spoils.map jxy).flatten)):=rfl
 have hn:(ito x.op::((x.ops.map jxh).flatten++(x.spoils.map jxy).flatten)).length+1=(jxz x).length:=rfl
 have t:=qty f h3 k (ln0:=jcx (jxz x)) (ws:=ito x.op::((x.ops.map jxh).flatten++(x.spoils.map jxy).flatten)) (i:=L.length) (blk:=b) (je5 (fun w hw=>(Wg.ins q w hw).d)) oa (fun w hw=>(Wg.ins q w (by grind)).k) oa (by simp[sb]) (by simp[sb]) (by simp[sb];omega) hb he x
 refine WC.imp t (fun v h' q2=>?_)
 have e2:(sb s (L++[b])).f.blocks.set L.length { b with instrs:=b.instrs++[x] }=L++[{ b with instrs:=b.instrs++[x] }]:=j3p
 rw[e2] at q2
 exact q2.takR (by grind[qt8]) (by rw[qt8 q];rfl)
theorem qg8 (f:TkF F) (h3:3<=ln) {L:List Ms.Blk} (hL:L.length<10000) {b:Ms.Blk} (hb:b.edges.length<=10000) {e:Ms.Edg} (q1:e.block<1000000000) (q2:∀ n∈e.args,n<1000000000) (hj:(jcx (jzs e)).length<=60000):LnK F ln (sb s (L++[b])) (jzs e) (sb s (L++[{ b with edges:=b.edges++[e] }])):=by
 have hl':∀ n∈e.args,n<1000000000000000000:=fun n hn=>by grind
 have hw:∀ w∈jzs e,Wg w:=fun w hw=>by
  unfold jzs at hw
  simp only[f0f] at hw
  rcases hw with rfl | rfl | hw
  .exact .edge
  .exact .ito oa
  .exact Wg.itos hl' w hw
 refine⟨noW hw,fun p h k=>?_⟩
 have:=jk1 (ws:=jzs e)
 have ee:jzs e=jxg::(ito e.block::e.args.map ito):=rfl
 have hn:(ito e.block::e.args.map ito).length+1=(jzs e).length:=rfl
 have t:=qg5 f h3 k (ln0:=jcx (jzs e)) (ws:=ito e.block::e.args.map ito) (i:=L.length) (blk:=b) (je5 (fun w h=>(hw w h).d)) oa (fun w h=>(hw w (by rw[ee];exact f01 _ h)).k) oa (by simp[sb]) (by simp[sb]) (by simp[sb];omega) hb e
 refine WC.imp t (fun v h' q2=>?_)
 have e2:(sb s (L++[b])).f.blocks.set L.length { b with edges:=b.edges++[e] }=L++[{ b with edges:=b.edges++[e] }]:=j3p
 rw[e2] at q2
 have r1:jdc ((ito e.block::e.args.map ito).headD [])=((e.block:Int),false):=jeg oa
 have r2:jhg (ito e.block::e.args.map ito).tail (false||(jdc ((ito e.block::e.args.map ito).headD [])).2)=(e.args.map (fun(n:Nat)=>(n:Int)),[],false):=by rw[r1];exact jgr hl'
 exact q2.takR (by rw[r2];exact⟨by rw[r1],rfl⟩) (by rw[r2];rfl)
theorem qjx (f:TkF F) {L:List Ms.Blk} (hL:L.length<10000) {b:Ms.Blk} (he:b.edges=[]):∀ {xs:List Ms.Ins} {ln:Nat} {d:List Ms.Ins},3<=ln->d.length+xs.length<=10000->(∀ x∈xs,InT x)->(∀ x∈xs,(jcx (jxz x)).length<=60000)->Chain F ln (sb s (L++[{ b with instrs:=d }])) (xs.map jxz) (sb s (L++[{ b with instrs:=d++xs }]))
 | [],ln,d,_,_,_,_=>by rw[f06];exact .nil
 | x::xs,ln,d,h3,hl,hq,hj=>by
  have c:=qjx f hL he (xs:=xs) (ln:=ln+1) (d:=d++[x]) oa (by grind) (fun y hy=>hq y (by grind)) (fun y hy=>hj y (by grind))
  rw[f0g] at c
  exact .cons (qt9 f h3 hL (b:={ b with instrs:=d }) (by grind) he (hq x se) (hj x se)) c
theorem qjy (f:TkF F) {L:List Ms.Blk} (hL:L.length<10000) {b:Ms.Blk}:∀ {xs:List Ms.Edg} {ln:Nat} {d:List Ms.Edg},3<=ln->d.length+xs.length<=10000->(∀ e∈xs,e.block<1000000000/\∀ n∈e.args,n<1000000000)->(∀ x∈xs,(jcx (jzs x)).length<=60000)->Chain F ln (sb s (L++[{ b with edges:=d }])) (xs.map jzs) (sb s (L++[{ b with edges:=d++xs }]))
 | [],ln,d,_,_,_,_=>by rw[f06];exact .nil
 | x::xs,ln,d,h3,hl,hq,hj=>by
  rw[f0i] at hl
  have c:=qjy f hL (b:=b) (xs:=xs) (ln:=ln+1) (d:=d++[x]) oa (by grind) (fun y hy=>hq y (by grind)) (fun y hy=>hj y (by grind))
  rw[f0g] at c
  exact .cons (qg8 f h3 hL (b:={ b with edges:=d }) (by grind) (hq x se).1 (hq x se).2 (hj x se)) c
theorem qua (f:TkF F) {L:List Ms.Blk} (hL:L.length<10000) {b:Ms.Blk} (q:BkT b) {ln:Nat} (h3:3<=ln) (hi:b.instrs.length<=10000) (he:b.edges.length<=10000) (hj:∀ ws∈j2r b,(jcx ws).length<=60000):Chain F ln (sb s L) (j2r b) (sb s (L++[b])):=by
 have c1:=qjx (s:=s) f hL (b:=(⟨b.params,[],[]⟩:Ms.Blk)) rfl (xs:=b.instrs) (ln:=ln+1) (d:=[]) oa (by grind) q.i (fun x hx=>hj _ (by unfold j2r;grind))
 have c2:=qjy (s:=s) f hL (b:=(⟨b.params,b.instrs,[]⟩:Ms.Blk)) (xs:=b.edges) (ln:=ln+1+(b.instrs.map jxz).length) (d:=[]) oa (by grind) q.e (fun x hx=>hj _ (by unfold j2r;grind))
 rw[f1m] at c1 c2
 exact .cons (qo8 f h3 oa q.p (hj _ (by unfold j2r;simp))) (c1.app c2)
theorem qcj (f:TkF F):∀ {bs:List Ms.Blk} {L:List Ms.Blk} {ln:Nat},L.length+bs.length<10000->(∀ b∈bs,BkT b)->3<=ln->(∀ b∈bs,b.instrs.length<=10000/\b.edges.length<=10000)->(∀ ws∈(bs.map j2r).flatten,(jcx ws).length<=60000)->Chain F ln (sb s L) ((bs.map j2r).flatten) (sb s (L++bs))
 | [],L,ln,_,_,_,_,_=>by rw[f06];exact .nil
 | b::bs,L,ln,hL,q,h3,hl,hj=>by
  rw[f0i] at hL
  have c:=qcj f (bs:=bs) (L:=L++[b]) (ln:=ln+(j2r b).length) (by grind) (fun x hx=>q x (by grind)) oa (fun x hx=>hl x (by grind)) (fun ws hw=>hj ws (by grind))
  rw[f0g] at c
  rw[f0u,f0t]
  have hb:=hl b se
  exact(qua f oa (q b se) h3 hb.1 hb.2 (fun ws hw=>hj ws (by rw[f0u,f0t];exact f08 _ hw))).app c
theorem qo9 {L:List (List (List UInt8))} {ws:List (List UInt8)} (h:ws∈L):(jcx ws).length<=(txt L).length:=by
 induction L with
 | nil=>grind
 | cons a L ih =>
  grind[j3m,f0d,f0i,f0f]
theorem qub (f:TkF F) {s:Scr} (q:ScT s) (hl:(jqx s).length<=60000) (hb:s.f.blocks.length<10000) (hb2:∀ b∈s.f.blocks,b.instrs.length<=10000/\b.edges.length<=10000):Chain F 0 qt0 (j58 s) s:=by
 rw[←qb0] at hl
 obtain⟨q1,q2,q3,q4⟩:=q.m
 have hm:∀ ws∈j58 s,(jcx ws).length<=60000:=fun ws hw=>f02 (qo9 hw) hl
 have c:=qcj (F:=F) (s:=s) f (bs:=s.f.blocks) (L:=[]) (ln:=3) (by grind) q.b oa hb2 (fun ws hw=>hm ws (by unfold j58;grind))
 exact .cons (qg6 f q1 q2) (.cons (qo7 f q3 q4 q.j (hm _ (by unfold j58 qgw;simp))) (.cons (qg7 f q.v (hm _ (by unfold j58 qgw;simp))) c))
end
open Go Go.RowKit
variable {x0 x1 x2 x3 x4 x5 x6 x7 x8 x9 x10 x11 x12 x13 x14 x15 x16 x17 x18 x19 x20 x21 x22 x24 x25 x26:AV} {seed steps:Int} {vs:List AV} {w:List Int} {xj xw:SV}
def qck:IC:=.seq (.block 1 (qr [qP (.ixs 1 (.g 3) (.g 6)),qL,qT 2] (.region [qM 0,qM 0,qN,qG 0,qL,qM 2,qP (.conv .u8 qa),qA (.bslice 5 1 [.int .u8 0] 1 [(0,(1,qa))]),qA (.app 5 1 1 qd qa),qP (.nchk (.l 8)),qG 0,qA (.store 1 qa qc)]))) (.region [qI 6,qT 6])
def jus:IC:=qr [qQ 4 (.bin .lt (.g 6) (.g 5))] (.seq (qX 4 0) qck)
def qjz:IC:=qr [qQ 3 (.mv (.g 1)),qQ 5 (.len qa),qQ 6 (.mv (qC 0))] (.block 0 (.loop jus))
theorem q0n:T 37=some (.mk qjz 2 5 []):=ka
def qj0:IC:=.region [qM 0,qM 1,qP (.bin .shr qa (.c (.s (.int .u64 24)))),qM 1,qP (.bin .shr qa (.c (.s (.int .u64 16)))),qM 1,qP (.bin .shr qa (.c (.s (.int .u64 8)))),qM 1,qA (.bslice 3 1 [.int .i64 0,.int .i64 0,.int .i64 0,.int .i64 0] 4 [(0,(1,.l 5)),(1,(1,qd)),(2,(1,qb)),(3,(1,qa))]),qA (.call 37 [.l 8,qa])]
theorem q0o:T 38=some (.mk qj0 2 0 []):=ka
def qj1:IC:=qr [qM 0,qM 1,qP (.len qa),qA (.bslice 3 1 [.int .i64 0] 1 [(0,(1,qa))]),qA (.call 37 [qd,qa])] (.region [qM 0,qM 1,qA (.call 37 [qb,qa])])
theorem q0p:T 39=some (.mk qj1 2 0 []):=ka
def qcl:IC:=.region [qM 0,qM 7,qF 3 9,qL,qP (.bin .mul (qC 8) qa),qP (.bin .add qd qa),qF 1 9,qL,qF 4 9,qL,qA (.bslice 3 1 Zc 3 [(0,(1,.l 4)),(1,(1,qc)),(2,(1,qa))]),qA (.call 37 [.l 10,qa])]
def qcm:IC:=.seq (.block 1 (qr [qP (.ixs 5 (.g 10) (.g 13)),qK 5,qB 9 (.new 80 Za),qA (.store 5 qa qb)] (qr [qF 0 9,qL,qT 7] (.seq (qr [qF 2 9,qB 8 (.load 1 false qa)] (.cond (.g 8) (.region [qM 7,qP (.bin .add qa (qC 4)),qT 7]) .skip)) qcl)))) (.region [qI 13,qT 13])
def jqf:IC:=qr [qQ 11 (.bin .lt (.g 13) (.g 12))] (.seq (qX 11 0) qcm)
def qcn:IC:=.seq (.block 3 (qr [qP (.ixs 2 (.g 3) (.g 6)),qK 2,qB 2 (.new 83 Zf),qA (.store 2 qa qb)] (.region [qM 0,qF 0 2,qL,qP (.bin .mul (qC 16) qa),qF 1 2,qL,qP (.bin .add qc qa),qA (.bslice 3 1 [.int .i64 0] 1 [(0,(1,qa))]),qA (.call 37 [.l 7,qa])]))) (.region [qI 6,qT 6])
def jut:IC:=qr [qQ 4 (.bin .lt (.g 6) (.g 5))] (.seq (qX 4 2) qcn)
def qj2:IC:=qr [qB 14 (.box 62 (.g 1))] (qr [qM 0,qF 0 14,qL,qF 1 14,qL,qP (.len qa),qF 2 14,qL,qP (.len qa),qA (.bslice 3 1 Zc 3 [(0,(1,.l 6)),(1,(1,qd)),(2,(1,qa))]),qA (.call 37 [.l 9,qa])] (.seq (qr [qF 1 14,qB 10 (.load 1 false qa),qQ 12 (.len qa),qQ 13 (.mv (qC 0))] (.block 0 (.loop jqf))) (qr [qF 2 14,qB 3 (.load 1 false qa),qQ 5 (.len qa),qQ 6 (.mv (qC 0))] (.block 2 (.loop jut)))))
theorem q0q:T 40=some (.mk qj2 2 13 []):=ka
def j3q:IC:=.seq (.block 1 (qr [qP (.ixs 1 (.g 19) (.g 22)),qL,qT 18] (.region [qM 23,qM 18,qA (.call 38 [qb,qa])]))) (.region [qI 22,qT 22])
def jnv:IC:=qr [qQ 20 (.bin .lt (.g 22) (.g 21))] (.seq (qX 20 0) j3q)
def j3r:IC:=.seq (.block 5 (qr [qP (.ixs 3 (.g 9) (.g 12)),qK 3,qB 8 (.new 62 Zg),qA (.store 3 qa qb)] (.region [qM 23,qA (.load 3 true (.g 8)),qA (.call 40 [qb,qa])]))) (.region [qI 12,qT 12])
def jnw:IC:=qr [qQ 10 (.bin .lt (.g 12) (.g 11))] (.seq (qX 10 4) j3r)
def j3s:IC:=.seq (.block 7 (qr [qP (.ixs 2 (.g 4) (.g 7)),qK 2,qB 3 (.new 65 Zh),qA (.store 2 qa qb)] (qr [qM 23,qF 0 3,qL,qA (.bslice 3 1 [.int .i64 0] 1 [(0,(1,qa))]),qA (.call 37 [qd,qa])] (.region [qM 23,qF 1 3,qL,qA (.call 39 [qc,qa])])))) (.region [qI 7,qT 7])
def jnx:IC:=qr [qQ 5 (.bin .lt (.g 7) (.g 6))] (.seq (qX 5 6) j3s)
def j3t:IC:=.seq (.block 3 (qr [qP (.ixs 3 (.g 14) (.g 17)),qK 3,qB 13 (.new 58 Zi),qA (.store 3 qa qb)] (qr [qM 23,qF 0 13,qL,qA (.call 39 [qc,qa])] (qr [qM 23,qF 1 13,qL,qP (.len qa),qA (.bslice 3 1 [.int .i64 0] 1 [(0,(1,qa))]),qA (.call 37 [.l 4,qa])] (.seq (qr [qF 1 13,qB 9 (.load 1 false qa),qQ 11 (.len qa),qQ 12 (.mv (qC 0))] (.block 4 (.loop jnw))) (qr [qM 23,qF 2 13,qL,qP (.len qa),qA (.bslice 3 1 [.int .i64 0] 1 [(0,(1,qa))]),qA (.call 37 [.l 4,qa])] (qr [qF 2 13,qB 4 (.load 1 false qa),qQ 6 (.len qa),qQ 7 (.mv (qC 0))] (.block 6 (.loop jnx))))))))) (.region [qI 17,qT 17])
def jny:IC:=qr [qQ 15 (.bin .lt (.g 17) (.g 16))] (.seq (qX 15 2) j3t)
def j3u:IC:=qr [qP (.build [.nilSlice] []),qA (.box 102 qa),qT 23] (qr [qM 23,qF 0 26,qG 0,qA (.slicea 2 1 qa),qA (.call 37 [qd,qa])] (qr [qM 23,qF 4 26,qL,qA (.call 38 [qc,qa])] (qr [qM 23,qF 5 26,qL,qA (.call 38 [qc,qa])] (qr [qM 23,qF 6 26,qL,qP (.len qa),qA (.bslice 3 1 [.int .i64 0] 1 [(0,(1,qa))]),qA (.call 37 [.l 4,qa])] (.seq (qr [qF 6 26,qB 19 (.load 1 false qa),qQ 21 (.len qa),qQ 22 (.mv (qC 0))] (.block 0 (.loop jnv))) (qr [qM 23,qF 2 26,qG 0,qL,qA (.call 39 [qd,qa])] (qr [qM 23,qF 2 26,qG 1,qL,qP (.len qa),qA (.bslice 3 1 [.int .i64 0] 1 [(0,(1,qa))]),qA (.call 37 [.l 5,qa])] (.seq (qr [qF 2 26,qG 1,qB 14 (.load 1 false qa),qQ 16 (.len qa),qQ 17 (.mv (qC 0))] (.block 2 (.loop jny))) (qr [qM 23,qN,qG 0,qL,qT 2,qQ 1 (.mv (qC 0))] .ret)))))))))
def qco:IC:=qr [qB 26 (.box 34 (.g 0)),qQ 2 (.mv (.c (.s .nilSlice))),qQ 1 (.mv (qC 0))] (.seq (qr [qA (.load 7 true (.g 26)),qA (.call 10 [qa]),qT 25] (qr [qM 25,qQ 24 (.bin .ne qa (qC 0))] (.cond (.g 24) (qr [qM 25,qQ 2 (.mv (.c (.s .nilSlice))),qQ 1 (.mv qb)] .ret) .skip))) j3u)
theorem quc:T 21=some (.mk qco 1 26 [(.tmp 2),(.tmp 1)]):=ka
def EY (row:List SV) (n:Nat) (ns:List Nat):Prop:=row=[.int .u8 n]/\ns=[]
structure WrS (h:Hp) (p:Nat) (l:List Nat) (ns:List Nat):Prop where
 ok:Ok h
 ex:∃ x,h.get p=some (.arr [x] 102)/\Sl h 5 1 false EY x l ns
 p1:1<=p/\p<h.next
 pn:p∉ns
 lt:∀ n∈ns,1<=n/\n<h.next
section
variable {h h':Hp} {p:Nat} {l:List Nat} {ns:List Nat}
theorem WrS.keep (w:WrS h p l ns) (ok':Ok h') (hk:∀ n,n<h.next->h'.get n=h.get n) (hn:h.next<=h'.next):WrS h' p l ns:=by
 obtain⟨x,h1,h2⟩:=w.ex
 exact⟨ok',⟨x,(hk p w.p1.2).trans h1,h2.keep (fun n hm=>hk n (w.lt n hm).2)⟩,⟨w.p1.1,by have:=w.p1.2;omega⟩,w.pn,fun n hm=>by have:=w.lt n hm;omega⟩
theorem WrS.put (w:WrS h p l ns) (hl:l.length<=100000) (v:Nat):∃ x x' hM hN ns',h.get p=some (.arr [x] 102)/\jmr (h.push (.arr [.int .u8 v] 5)) 5 1 1 (.s x) (.s (.slice h.next 0 1 1 true 1))=some (.s x',hM)/\Ok hM/\hM.get p=some (.arr [x] 102) /\
 hM.put p (some (.arr [x'] 102))=hN/\Ok hN/\WrS hN p (l++[v]) ns'/\Mv h hN (p::ns) (p::ns'):=by
 obtain⟨x,h1,h2⟩:=w.ex
 have ok:=w.ok
 obtain⟨hp1,hp2⟩:=w.p1
 obtain⟨hM,e1,okM,nM,kM,_,sM⟩:=h2.app1 (bytes:=1) (row:=[.int .u8 (v:Int)]) (a:=v) (ms:=[]) ok w.lt rfl ⟨rfl,rfl⟩ oa oa
 have xM:=(kM p hp2 w.pn).trans h1
 have okN:Ok (hM.put p (some (.arr [.slice (h.next+1) 0 (l.length+1) (l.length+1) false 1] 102))):=jas okM
 have nN:(hM.put p (some (.arr [.slice (h.next+1) 0 (l.length+1) (l.length+1) false 1] 102))).next=h.next+2:=by rw[Hp.next_put,nM]
 have gN:∀ n,n≠p->(hM.put p (some (.arr [.slice (h.next+1) 0 (l.length+1) (l.length+1) false 1] 102))).get n=hM.get n:=fun n hn=>by rw[jak okM hp1,if_neg hn]
 have tl:∀ n∈ns.tail,n∈ns:=fun n hn=>f0j hn
 have pt:p∉(h.next+1)::(ns.tail++[]):=fun hc=>by
  rcases f0f.1 hc with h3 | h3
  .omega
  .exact w.pn (tl p (by simpa using h3))
 refine⟨x,_,hM,_,(h.next+1)::(ns.tail++[]),h1,e1,okM,xM,rfl,okN,⟨okN,⟨_,by rw[jak okM hp1,if_pos rfl],(sM (E':=EY) (fun _ _ _ _ e=>e)).keep (fun n hn=>gN n (fun e=>pt (e▸hn)))⟩,⟨hp1,by rw[nN];omega⟩,pt,fun n hn=>?_⟩,⟨okN,by rw[nN];omega,fun n hn=>?_,fun n hn hm=>?_⟩⟩
 .rw [nN]
  rcases f0f.1 hn with rfl | hn
  .omega
  .have:=w.lt n (tl n (by simpa using hn));omega
 .rcases f0f.1 hn with rfl | hn
  .exact .inl se
  .rcases f0f.1 hn with rfl | hn
   .exact .inr oa
   .exact .inl (f01 _ (tl n (by simpa using hn)))
 .rw [gN n (fun e=>hm (by simp[e]))]
  exact kM n hn (fun hc=>hm (f01 _ hc))
end
def RdL (h:Hp) (xl:SV) (l:List Nat) (own:List Nat):Prop:=xl=jaf jav l∨∃ b o mc ex cells ty,xl=.slice b o l.length mc ex 1/\h.get b=some (.arr cells ty)/\b<h.next/\b∉own/\∀ (i n:Nat),l[i]?=some n->cells[o+i]?=some (si n)
theorem RdL.len {h:Hp} {xl:SV} {l own:List Nat} (r:RdL h xl l own):jsn (.s xl)=some (vi l.length):=by
 rcases r with rfl | ⟨b,o,mc,ex,cells,ty,rfl,_⟩
 .exact jah
 .rfl
theorem RdL.mv {h h':Hp} {xl:SV} {l own own':List Nat} (r:RdL h xl l own) (m:Mv h h' own own'):RdL h' xl l own':=by
 rcases r with rfl | ⟨b,o,mc,ex,cells,ty,rfl,h1,h2,h3,h4⟩
 .exact .inl rfl
 .exact .inr ⟨b,o,mc,ex,cells,ty,rfl,(m.keep b h2 h3).trans h1,f0o h2 m.nx,fun hc=>by
   rcases m.new b hc with h5 | h5
   .exact h3 h5
   .omega,h4⟩
theorem qcp (n:Nat):j6b .u8 (n:Int)=some (.s (.int .u8 ((n % 256:Nat):Int))):=by
 show oif (Nat.ble n 255) (some (AV.s (.int .u8 (n:Int)))) (some (AV.s (.int .u8 ((n % 256:Nat):Int))))=_
 rw[jat]
 split
 .rename_i h
  rw[f2j (by have:=f0l h;omega)]
 .rfl
theorem qcq {F:Fns} {l:List Nat} (hl:l.length<=50000) {p:Nat} {xl:SV} {Q:Ex->St->Prop} :
 ∀ (d i:Nat) (_:i+d=l.length) {hi:Hp} {ws ns:List Nat} (_:WrS hi p ws ns) (_:RdL hi xl l (p::ns)) (_:ws.length+d<=100000) {x2 x4:AV}
  (hQ:∀ hj ns' x2 x4,WrS hj p (ws++(l.drop i).map (fun n=>n % 256)) ns'->Mv hi hj (p::ns) (p::ns')->Q (.exit 0) (.mk [.s (.ptr p 0),x1,x2,.s xl,x4,vi l.length,vi l.length] hj)),
  W F jus.loop (.mk [.s (.ptr p 0),x1,x2,.s xl,x4,vi l.length,vi i] hi) Q
 | 0,i,hd,hi,ws,ns,w,r,hw,x2,x4,hQ=>by
  obtain rfl:i=l.length:=oa
  rw[jai]
  unfold jus
  have ok:=w.ok
  simp(disch:=go_num) only[go_sem,f0s]
  exact hQ hi ns _ _ (by rw[f1s];simpa using w) (Mv.refl ok)
 | d+1,i,hd,hi,ws,ns,w,r,hw,x2,x4,hQ=>by
  have hil:i<l.length:=oa
  have hlt:(i:Int)<(l.length:Int):=oa
  have hss:(i:Int)+1=((i+1:Nat):Int):=oa
  obtain⟨n,hn⟩:∃ n,l[i]?=some n:=⟨_,f0b hil⟩
  have hdr:l.drop i=n::l.drop (i+1):=by rw[f0w hil,(f0q.1 hn).2]
  have ok:=w.ok
  obtain⟨x,x',hM,hN,ns',t1,t2,okM,t3,t4,okN,wN,mN⟩:=w.put oa (n % 256)
  have rN:=r.mv mN
  have hQ':∀ hj ns'' x2 x4,WrS hj p ((ws++[n % 256])++(l.drop (i+1)).map (fun n=>n % 256)) ns''->Mv hN hj (p::ns') (p::ns'')->Q (.exit 0) (.mk [.s (.ptr p 0),x1,x2,.s xl,x4,vi l.length,vi l.length] hj):=fun hj ns'' x2 x4 w' m' =>
   hQ hj ns'' x2 x4 (by rw[hdr];simpa[f0g] using w') (mN.trans m')
  have hrow:hi.push (.arr [.int .u8 ((n % 256:Nat):Int)] 5)=hi.push (.arr [.int .u8 ((n % 256:Nat):Int)] 5):=rfl
  rw[jai]
  unfold jus qck
  rcases r with hxl | ⟨b,o,mc,ex,cells,ty,hxl,r1,r2,r3,r4⟩
  .have hix:jqo 1 (.s xl) (vi (i:Int))=some (.s (.cp (jav n))):=by rw[hxl];exact jaj (enc:=jav) (size:=1) hn rfl
   simp(disch:=go_num) only[go_sem,jad,eq_true hlt,hix,jav,t1,qcp,t2,t3,t4,hss]
   exact qcq hl d (i+1) oa wN rN (by simp;omega) hQ'
  .have hix:jqo 1 (.s xl) (vi (i:Int))=some (.s (.ptr b (o+i*1))):=by rw[hxl];exact jct hil
   have hrd:rdB (hi.get b) (o+i*1) 1=some [si n]:=by rw[r1];exact jwq (by rw[f12];exact r4 i n hn)
   simp(disch:=go_num) only[go_sem,jad,eq_true hlt,hix,hrd,t1,qcp,t2,t3,t4,hss]
   exact qcq hl d (i+1) oa wN rN (by simp;omega) hQ'
def Wf (f:FuncId):Bool:=Nat.beq f 37||(Nat.beq f 38||(Nat.beq f 39||(Nat.beq f 40||Nat.beq f 21)))
structure WrF (F:Fns):Prop where
 x:∀ f,Wf f=true->∀ vs h,jc1 F f vs h=none
 t:j4i F=T
def byt (l:List Nat):List Nat:=l.map (fun n=>n % 256)
theorem jfj (a b:List Nat):byt (a++b)=byt a++byt b:=f20 ..
theorem jfk (a:List Nat):(byt a).length=a.length:=f03 ..
theorem qcr:∀ {l:List Nat},(∀ n∈l,n<256)->byt l=l
 | [],_=>rfl
 | n::l,h=>by
  show n % 256::byt l=_
  rw[f2j (h n se),qcr (fun m hm=>h m (by simp[hm]))]
section
variable {F:Fns} {h:Hp} {p:Nat} {ws ns:List Nat}
def Wrn (h:Hp) (p:Nat) (ws ns l:List Nat):AV->Hp->Prop:=fun _ h'=>∃ ns',WrS h' p (ws++l) ns'/\Mv h h' (p::ns) (p::ns')
theorem jzv (f:WrF F) (w:WrS h p ws ns) {xl:SV} {l:List Nat} (r:RdL h xl l (p::ns)) (hw:ws.length+l.length<=50000):WC F 37 [.s (.ptr p 0),.s xl] h (Wrn h p ws ns (byt l)):=by
 refine jaz (f.x _ rfl _ _) ((congrFun f.t _).trans q0n) rfl ?_
 unfold qjz
 have ok:=w.ok
 have ll:=r.len
 simp(disch:=go_num) only[go_sem,ll]
 refine qcq (l:=l) oa l.length 0 oa w r oa (fun hj ns' x2 x4 w' m'=>?_)
 simp(disch:=go_num) only[go_sem]
 exact⟨ns',w',m'⟩
theorem wsb (f:WrF F) (w:WrS h p ws ns) {l:List Nat} {ty:Nat} (hw:ws.length+l.length<=50000):WC F 37 [.s (.ptr p 0),.s (.slice h.next 0 l.length l.length true 1)] (h.push (.arr (l.map (fun n:Nat=>si n)) ty)) (Wrn h p ws ns (byt l)):=by
 have ok:=w.ok
 obtain⟨hA,eA,okA,nA,xA,gA⟩:=jdw ok (l.map (fun n:Nat=>si n)) ty
 rw[eA]
 have wA:=w.keep okA gA oa
 have hpn:h.next∉p::ns:=fun hc=>by
  rcases f0f.1 hc with h1 | h1
  .have:=w.p1.2;omega
  .have:=w.lt _ h1;omega
 refine WC.imp (jzv f wA (l:=l) (.inr ⟨h.next,0,l.length,true,_,ty,rfl,xA,oa,hpn,fun i n hn=>by rw[f1b,f09,hn];rfl⟩) hw) ?_
 rintro v h' ⟨ns',w',m'⟩
 exact⟨ns',w',Mv.trans ⟨okA,oa,fun n hn=>.inl hn,fun n hn _=>gA n hn⟩ m'⟩
theorem jzw (f:WrF F) (w:WrS h p ws ns) {l:List Nat} (hw:ws.length+l.length+1<=50000):WC F 39 [.s (.ptr p 0),.s (jaf jav l)] h (Wrn h p ws ns (byt (jxd l))):=by
 refine jaz (f.x _ rfl _ _) ((congrFun f.t _).trans q0p) rfl ?_
 unfold qj1
 have ok:=w.ok
 have ll:=jah (enc:=jav) (l:=l)
 simp(disch:=go_num) only[go_sem,ll]
 refine WC.imp (wsb f w (l:=[l.length]) (by simp;omega)) ?_
 rintro v hA ⟨n1,w1,m1⟩
 have ok1:=w1.ok
 simp(disch:=go_num) only[go_sem]
 refine WC.imp (jzv f w1 (l:=l) (.inl rfl) (by simp[byt];omega)) ?_
 rintro v hB ⟨n2,w2,m2⟩
 have ok2:=w2.ok
 simp(disch:=go_num) only[go_sem]
 exact⟨n2,by rw[show byt (jxd l)=byt [l.length]++byt l from rfl,←f0g];exact w2,m1.trans m2⟩
theorem jzx (f:WrF F) (w:WrS h p ws ns) {n:Nat} (hw:ws.length+4<=50000):WC F 38 [.s (.ptr p 0),vi n] h (Wrn h p ws ns (jdp n)):=by
 refine jaz (f.x _ rfl _ _) ((congrFun f.t _).trans q0o) rfl ?_
 unfold qj0
 have ok:=w.ok
 have s1:(n:Int) / 2 ^ 24=((n / 16777216:Nat):Int):=oa
 have s2:(n:Int) / 2 ^ 16=((n / 65536:Nat):Int):=oa
 have s3:(n:Int) / 2 ^ 8=((n / 256:Nat):Int):=oa
 simp(disch:=go_num) only[go_sem,s1,s2,s3]
 refine WC.imp (wsb f w (l:=[n / 16777216,n / 65536,n / 256,n]) (by simp;omega)) ?_
 rintro v hA ⟨n1,w1,m1⟩
 have ok1:=w1.ok
 simp(disch:=go_num) only[go_sem]
 exact⟨n1,w1,m1⟩
end
theorem Mv.low {h h':Hp} (ok:Ok h') (hn:h.next<=h'.next) (g:∀ n,n<h.next->h'.get n=h.get n) (ns:List Nat):Mv h h' ns ns:=⟨ok,hn,fun n hm=>.inl hm,fun n hn _=>g n hn⟩
theorem qj3 {F:Fns} (f:WrF F) {l:List Ms.Opd} (hl:l.length<=10000) (hok:∀ o∈l,OkO o) {p:Nat} {Q:Ex->St->Prop} :
 ∀ (d i:Nat) (_:i+d=l.length) {hi:Hp} {ws ns:List Nat} (_:WrS hi p ws ns) (_:ws.length+3*d<=40000) {x7 x8 x9 x11:AV}
  (hQ:∀ hj ns' x7 x8 x9 x11,WrS hj p (ws++byt ((l.drop i).map qc7).flatten) ns'->Mv hi hj (p::ns) (p::ns')->Q (.exit 0) (.mk [.s (.ptr p 0),x1,x2,x3,x4,x5,x6,x7,x8,x9,.s (jaf jbc l),x11,vi l.length,vi l.length,x14] hj)),
  W F jqf.loop (.mk [.s (.ptr p 0),x1,x2,x3,x4,x5,x6,x7,x8,x9,.s (jaf jbc l),x11,vi l.length,vi i,x14] hi) Q
 | 0,i,hd,hi,ws,ns,w,hw,x7,x8,x9,x11,hQ=>by
  obtain rfl:i=l.length:=oa
  rw[jai]
  unfold jqf
  have ok:=w.ok
  simp(disch:=go_num) only[go_sem,f0s]
  exact hQ hi ns _ _ _ _ (by rw[f1s];simpa[byt] using w) (Mv.refl ok)
 | d+1,i,hd,hi,ws,ns,w,hw,x7,x8,x9,x11,hQ=>by
  have hil:i<l.length:=oa
  have hlt:(i:Int)<(l.length:Int):=oa
  have hss:(i:Int)+1=((i+1:Nat):Int):=oa
  obtain⟨o,ho⟩:∃ n,l[i]?=some n:=⟨_,f0b hil⟩
  have hdr:l.drop i=o::l.drop (i+1):=by rw[f0w hil,(f0q.1 ho).2]
  have hix:=jaj (enc:=jbc) (size:=5) ho rfl
  obtain⟨hk,hlim,hv,hn⟩:=hok o (f0c ho)
  have ok:=w.ok
  obtain⟨hA,eA,okA,nA,xA,gA⟩:=jby ok Za (jbc o) 80
  have wA:=w.keep okA gA oa
  have s1:(o.kind:Int)+8*(o.limit:Int)=((o.kind+8*o.limit:Nat):Int):=oa
  have s2:(o.kind:Int)+(4+8*(o.limit:Int))=((o.kind+4+8*o.limit:Nat):Int):=oa
  unfold jbc at xA eA
  rw[jai]
  unfold jqf qcm qcl
  have go:∀ {v:AV} {hB:Hp},Wrn hA p ws ns (byt (qc7 o)) v hB->∃ n1,WrS hB p (ws++byt (qc7 o)) n1/\Mv hi hB (p::ns) (p::n1):=fun⟨n1,w1,m1⟩=>⟨n1,w1,(Mv.low okA oa gA _).trans m1⟩
  have fin:∀ {hB:Hp} {n1:List Nat} {x7 x8 x9 x11:AV},WrS hB p (ws++byt (qc7 o)) n1->Mv hi hB (p::ns) (p::n1)->W F jqf.loop (.mk [.s (.ptr p 0),x1,x2,x3,x4,x5,x6,x7,x8,x9,.s (jaf jbc l),x11,vi l.length,vi ((i+1:Nat):Int),x14] hB) Q:=fun {hB n1 x7 x8 x9 x11} w1 m1 =>
   qj3 f hl hok d (i+1) oa w1 (by rw[f0d,jfk];show ws.length+3+3*d<=40000;omega) (fun hj ns' x7 x8 x9 x11 w' m'=>hQ hj ns' x7 x8 x9 x11 (by rw[hdr,f0u,f0t,jfj,←f0g];exact w') (m1.trans m'))
  cases el:o.late with
  | false =>
   rw[el] at xA eA
   simp(disch:=go_num) only[go_sem,jad,eq_true hlt,hix,jbc,el,eA,xA,s1]
   refine WC.imp (wsb f wA (l:=[o.kind+8*o.limit,o.value,o.n]) (by simp;omega)) ?_
   rintro v hB hW
   obtain⟨n1,w1,m1⟩:=go (v:=v) (hB:=hB) (by unfold qc7;rw[el];exact hW)
   have okB:=w1.ok
   simp(disch:=go_num) only[go_sem,jad,hss]
   exact fin w1 m1
  | true =>
   rw[el] at xA eA
   simp(disch:=go_num) only[go_sem,jad,eq_true hlt,hix,jbc,el,eA,xA,s2]
   refine WC.imp (wsb f wA (l:=[o.kind+4+8*o.limit,o.value,o.n]) (by simp;omega)) ?_
   rintro v hB hW
   obtain⟨n1,w1,m1⟩:=go (v:=v) (hB:=hB) (by unfold qc7;rw[el];exact hW)
   have okB:=w1.ok
   simp(disch:=go_num) only[go_sem,jad,hss]
   exact fin w1 m1
theorem qj4 {F:Fns} (f:WrF F) {l:List (Nat×Nat)} (hl:l.length<=10000) (hok:∀ r∈l,r.1<16/\r.2<16) {p:Nat} {Q:Ex->St->Prop} :
 ∀ (d i:Nat) (_:i+d=l.length) {hi:Hp} {ws ns:List Nat} (_:WrS hi p ws ns) (_:ws.length+d<=40000) {x2 x4:AV}
  (hQ:∀ hj ns' x2 x4,WrS hj p (ws++byt ((l.drop i).map qbo)) ns'->Mv hi hj (p::ns) (p::ns')->Q (.exit 2) (.mk [.s (.ptr p 0),x1,x2,.s (jaf jcq l),x4,vi l.length,vi l.length,x7,x8,x9,x10,x11,x12,x13,x14] hj)),
  W F jut.loop (.mk [.s (.ptr p 0),x1,x2,.s (jaf jcq l),x4,vi l.length,vi i,x7,x8,x9,x10,x11,x12,x13,x14] hi) Q
 | 0,i,hd,hi,ws,ns,w,hw,x2,x4,hQ=>by
  obtain rfl:i=l.length:=oa
  rw[jai]
  unfold jut
  have ok:=w.ok
  simp(disch:=go_num) only[go_sem,f0s]
  exact hQ hi ns _ _ (by rw[f1s];simpa[byt] using w) (Mv.refl ok)
 | d+1,i,hd,hi,ws,ns,w,hw,x2,x4,hQ=>by
  have hil:i<l.length:=oa
  have hlt:(i:Int)<(l.length:Int):=oa
  have hss:(i:Int)+1=((i+1:Nat):Int):=oa
  obtain⟨r,hr⟩:∃ n,l[i]?=some n:=⟨_,f0b hil⟩
  have hdr:l.drop i=r::l.drop (i+1):=by rw[f0w hil,(f0q.1 hr).2]
  have hix:=jaj (enc:=jcq) (size:=2) hr rfl
  obtain⟨hc,hn⟩:=hok r (f0c hr)
  have ok:=w.ok
  obtain⟨hA,eA,okA,nA,xA,gA⟩:=jby ok Zf (jcq r) 83
  have wA:=w.keep okA gA oa
  have s1:16*(r.1:Int)+(r.2:Int)=((qbo r:Nat):Int):=by unfold qbo;omega
  unfold jcq at xA eA
  rw[jai]
  unfold jut qcn
  simp(disch:=go_num) only[go_sem,jad,eq_true hlt,hix,jcq,eA,xA,s1]
  refine WC.imp (wsb f wA (l:=[qbo r]) (by simp;omega)) ?_
  rintro v hB ⟨n1,w1,m1⟩
  have okB:=w1.ok
  simp(disch:=go_num) only[go_sem,jad,hss]
  exact qj4 f hl hok d (i+1) oa w1 (by rw[f0d,jfk];show ws.length+1+d<=40000;omega) (fun hj ns' x2 x4 w' m'=>hQ hj ns' x2 x4 (by rw[hdr,f0u,show qbo r::(l.drop (i+1)).map qbo=[qbo r]++(l.drop (i+1)).map qbo from rfl,jfj,←f0g];exact w') ((Mv.low okA oa gA _).trans (m1.trans m')))
theorem qpa {F:Fns} (f:WrF F) {h:Hp} {p:Nat} {ws ns:List Nat} (w:WrS h p ws ns) {x:Ms.Ins} (k:OkI x) (hw:ws.length+2000<=40000):WC F 40 [.s (.ptr p 0),.agg (jdd x)] h (Wrn h p ws ns (byt (jl5 x))):=by
 refine jaz (f.x _ rfl _ _) ((congrFun f.t _).trans q0q) rfl ?_
 unfold qj2
 have ok:=w.ok
 have hno:=k.nops
 have hns:=k.nsp
 obtain⟨hA,eA,okA,nA,xA,gA⟩:=jdw ok (jdd x) 62
 have wA:=w.keep okA gA oa
 have l1:=jah (enc:=jbc) (l:=x.ops)
 have l2:=jah (enc:=jcq) (l:=x.spoils)
 unfold jdd at xA eA
 simp(disch:=go_num) only[go_sem,jdd,eA,xA,l1,l2]
 refine WC.imp (wsb f wA (l:=[x.op,x.ops.length,x.spoils.length]) (by simp;omega)) ?_
 rintro v hB ⟨n1,w1,m1⟩
 have okB:=w1.ok
 have hA0:h.next∉p::ns:=fun hc=>by
  rcases f0f.1 hc with h1 | h1
  .have:=w.p1.2;omega
  .have:=w.lt _ h1;omega
 have hA1:h.next∉p::n1:=fun hc=>by
  rcases m1.new _ hc with h1 | h1
  .exact hA0 h1
  .omega
 have xB:=(m1.keep h.next oa hA0).trans xA
 have nB:=m1.nx
 have w1l:(ws++byt [x.op,x.ops.length,x.spoils.length]).length=ws.length+3:=by rw[f0d,jfk];rfl
 simp(disch:=go_num) only[go_sem,xB,l1]
 refine qj3 f oa k.ops x.ops.length 0 oa w1 oa (fun hC n2 x7 x8 x9 x11 w2 m2=>?_)
 have okC:=w2.ok
 have xC:=(m2.keep h.next oa hA1).trans xB
 simp(disch:=go_num) only[go_sem,xC,l2]
 have w2l:∀ q:List Ms.Opd,((q.map qc7).flatten).length=3*q.length:=fun q=>by
  induction q with
  | nil=>rfl
  | cons a q ih=>rw[f0u,f0t,f0d,ih];show 3+_=3*(q.length+1);omega
 refine qj4 f oa k.sp x.spoils.length 0 oa w2 (by rw[f0d,w1l,jfk,w2l,f1f];omega) (fun hD n3 x2 x4 w3 m3=>?_)
 have okD:=w3.ok
 simp(disch:=go_num) only[go_sem]
 refine⟨n3,?_,(Mv.low okA oa gA _).trans (m1.trans (m2.trans m3))⟩
 have e:byt (jl5 x)=byt [x.op,x.ops.length,x.spoils.length]++(byt ((x.ops.map qc7).flatten)++byt (x.spoils.map qbo)):=by
  rw[←jfj,←jfj];rfl
 rw[e,←f0g,←f0g]
 exact w3
set_option maxHeartbeats 4000000
def jxt (s:Scr) (xj:SV):List SV:=[si s.m1,si s.m2,jaf jav s.f.values,jaf ja6 s.f.blocks,si s.seed,si s.steps,xj]
theorem qj5 {F:Fns} {l:List Nat} (lj:LstE jav 1 xj l) (hl:l.length<=64) (hj:∀ n∈l,n<=1073741824) {Q:Ex->St->Prop} :
 ∀ (d i:Nat) (_:i+d=l.length) {hi:Hp} (_:Ok hi) {x2 x3 x5:AV}
  (hQ:∀ x2 x3 x5,Q (.exit 0) (.mk [x0,x1,x2,x3,.s xj,x5,vi l.length,vi l.length,x8,x9,x10,x11,x12] hi)),
  W F jtv.loop (.mk [x0,x1,x2,x3,.s xj,x5,vi l.length,vi i,x8,x9,x10,x11,x12] hi) Q
 | 0,i,hd,hi,ok,x2,x3,x5,hQ=>by
  obtain rfl:i=l.length:=oa
  rw[jai]
  unfold jtv
  simp(disch:=go_num) only[go_sem,f0s]
  exact hQ _ _ _
 | d+1,i,hd,hi,ok,x2,x3,x5,hQ=>by
  have hil:i<l.length:=oa
  have hlt:(i:Int)<(l.length:Int):=oa
  have hss:(i:Int)+1=((i+1:Nat):Int):=oa
  obtain⟨n,hn⟩:∃ n,l[i]?=some n:=⟨_,f0b hil⟩
  have hix:=lj.at_ hn
  have hn2:=hj n (f0c hn)
  have c1:((n:Int)<0)=False:=eq_false oa
  have c2:(1073741824<(n:Int))=False:=eq_false oa
  rw[jai]
  unfold jtv qbh
  simp(disch:=go_num) only[go_sem,jad,eq_true hlt,hix,jav,c1,c2,hss]
  exact qj5 lj hl hj d (i+1) oa ok hQ
theorem qcs {F:Fns} (hX:∀ vs h,jc1 F 10 vs h=none) (hT:j4i F=T) {h:Hp} (ok:Ok h) {s:Scr} (lq:LstE jav 1 xj s.junk) (hK:∀ h Q,WC F 23 [.agg [jaf jav s.f.values,jaf ja6 s.f.blocks],.agg [si s.m1,si s.m2]] h Q=Q (vi 0) h) (h1:s.seed<=1073741824) (h2:s.steps<=5000) (h3:s.junk.length<=64) (h4:∀ n∈s.junk,n<=1073741824) :
 WC F 10 [.agg (jxt s xj)] h (fun v h'=>∃ d,jf9 true h' d v=some (vi 0)):=by
 refine jaz (hX _ _) ((congrFun hT _).trans q0e) rfl ?_
 unfold qje jxt
 obtain⟨hA,eA,okA,nA,xA,gA⟩:=jdw ok [si s.m1,si s.m2,jaf jav s.f.values,jaf ja6 s.f.blocks,si s.seed,si s.steps,xj] 34
 have lj:=lq.len
 have c1:((s.seed:Int)<0)=False:=eq_false oa
 have c2:(1073741824<(s.seed:Int))=False:=eq_false oa
 have c3:((s.steps:Int)<0)=False:=eq_false oa
 have c4:(5000<(s.steps:Int))=False:=eq_false oa
 have c5:(64<(s.junk.length:Int))=False:=eq_false oa
 simp(disch:=go_num) only[go_sem,eA,xA,hK]
 unfold qbk
 simp(disch:=go_num) only[go_sem,xA,c1,c2,c3,c4]
 unfold qbj
 simp(disch:=go_num) only[go_sem,xA,lj,c5]
 unfold qbi
 simp(disch:=go_num) only[go_sem,xA,lj]
 refine qj5 lq h3 h4 s.junk.length 0 oa okA (fun x2 x3 x5=>?_)
 simp(disch:=go_num) only[go_sem]
 exact⟨1,rfl⟩
def SK1 (f:FuncId):Bool:=Nat.beq f 10
def FK1:Fns:=PX SK1 F11
def FT0:Fns:=qfm FK1
def SSh (f:FuncId):Bool:=Nat.beq f 5
def FT1:Fns:=PX SSh FT0
theorem q5c {A:Nat->Int}:Env Tryz.prog A tys FT1:=jer (j84 (jer q0d))
def Lf (f:FuncId):Bool:=Nat.beq f 19||(Nat.beq f 32||(Nat.beq f 54||(Nat.beq f 13||(Nat.beq f 24||Nat.beq f 16))))
theorem jl9 {f:FuncId} (hf:Lf f=false) {h:Hp}:jqt f vs h=none:=by
 unfold Lf at hf
 simp only[Bool.or_eq_false_iff] at hf
 unfold jqt
 rw[hf.1,hf.2.1,hf.2.2.1,hf.2.2.2.1,hf.2.2.2.2.1,hf.2.2.2.2.2];rfl
theorem jh0 {F:Fns} {f:FuncId} {h:Hp} (hl:jqt f vs h=none):jc1 (qfm F) f vs h=jc1 F f vs h:=by
 cases F with
 | mk T X =>
  show Option.rec (motive:=fun _=>R) (X f vs h) (fun r=>some r) (jqt f vs h)=X f vs h
  rw[hl]
theorem jxu {F:Fns} {f:FuncId} {h:Hp} {r:AV×Hp} (hl:jqt f vs h=some r):jc1 (qfm F) f vs h=some r:=by
 cases F with
 | mk T X =>
  show Option.rec (motive:=fun _=>R) (X f vs h) (fun r=>some r) (jqt f vs h)=some r
  rw[hl]
theorem q0r {g:FuncId} (h:Bf g=true) {h0:Hp}:jc1 FT0 g vs h0=none:=by
 unfold Bf at h
 simp only[f2b] at h
 rcases h with h | h | h | h | h | h<;>(have e:=f0k h;subst e;exact(jh0 (jl9 rfl)).trans ((ja0 rfl).trans (qgp rfl rfl rfl rfl rfl rfl rfl rfl rfl rfl rfl)))
theorem blT:BlF FT0:=⟨fun g hg vs h=>q0r hg,rfl,fun f vs h r hr=>jxu hr⟩
section
variable {h:Hp} {m:Nat×Nat} {f:Fc} {s:List Bool} {Q:AV->Hp->Prop}
structure ScG (f:Fc) (m:Nat×Nat) (s:List Bool) (x:Scr):Prop where
 o:FlOk m f s
 m1:2<=m.1/\m.1<=10
 m2:2<=m.2/\m.2<=10
 e1:x.m1=m.1
 e2:x.m2=m.2
 ef:x.f=f
 sd:x.seed<=1073741824
 st:x.steps<=5000
 j1:x.junk.length<=64
 j2:∀ n∈x.junk,n<=1073741824
theorem qpb {x:Scr} (k:ScG f m s x):WC FT0 10 [.agg (jec x)] h Q=Q (vi 0) h :=
 jam ((jh0 (jl9 rfl)).trans (jbg rfl (by unfold jec;simp only[jaw,ja5,jbi,jdu,ja7,jbj,jbd,jbt,jbu,jbl,if_true]) (qcs (fun vs h=>qgp rfl rfl rfl rfl rfl rfl rfl rfl rfl rfl rfl) rfl jdv (s:=x) (LstE.enc (fun _=>rfl)) (fun h Q=>by rw[k.ef,k.e1,k.e2];exact j2c k.o k.m1 k.m2) k.sd k.st k.j1 k.j2)))
theorem ScG.tks {x:Scr} (k:ScG f m s x):TkS x:=by
 have kc:=k.o.k
 have hnv:=kc.nv
 have hnb:=kc.nb
 have hm1:=k.m1
 have hm2:=k.m2
 have hg:∀ c,g2 m c<=10:=fun c=>by unfold g2;split<;>omega
 have ef:=k.ef
 subst ef
 refine⟨by rw[k.e1];omega,by rw[k.e2];omega,by have:=k.sd;omega,by have:=k.st;omega,by have:=k.j1;omega,fun n hn=>by have:=k.j2 n hn;omega,oa,fun n hn=>by have:=kc.cls n hn;omega,oa,fun b hb=>?_⟩
 obtain⟨h1,h2,h3⟩:=kc.blk b hb
 refine⟨oa,fun v h=>by have:=kc.prm b hb v h;omega,oa,fun y hy=>?_,oa,fun e he=>?_⟩
 .have i:=kc.ins b hb y hy
  have h4:=i.op
  have h5:=i.nops
  have h6:=i.nsp
  refine⟨oa,oa,oa,fun o ho=>?_,fun r hr=>?_⟩
  .have q:=i.opd o ho
   have h7:=q.lim
   have h8:=q.val
   refine⟨by have:=q.kind;omega,oa,oa,?_⟩
   by_cases e:o.limit=5
   .obtain ⟨u,hu,_⟩:=i.reu o ho e
    have:=(f0q.1 hu).1
    omega
   .by_cases e2:o.limit=4
    .have:=q.fix e2
     have:=hg (cl x.f.values o.value)
     omega
    .have:=q.zero oa
     omega
  .obtain ⟨h7,h8⟩:=i.spo r hr
   have:=hg r.1
   exact⟨oa,oa⟩
 .obtain ⟨_,h4,t,h5,h6,_⟩:=kc.edg b hb e he
  have h7:=(f0q.1 h5).1
  have h8:=congrArg List.length h6
  simp only[f03] at h8
  have h9:=(kc.blk t (f0c h5)).1
  exact⟨oa,oa,fun v hv'=>by have:=h4 v hv';omega⟩
def q1j (x:Scr):AV:=.tup [(false,[.str (jqx x)]),(false,[si 0])]
structure ScF (F:Fns):Prop where
 x:∀ vs h,jc1 F 6 vs h=none
 t:j4i F=T
 m:∀ {a b:Int},In6 a->In6 b->∀ {h:Hp} {Q:AV->Hp->Prop},WC F 17 [vi a,vi b] h Q=Q (.agg (qp2 (js7 a b))) h
 f:∀ {m:Nat×Nat} {l:List Pc},(2<=m.1/\m.1<=10)->(2<=m.2/\m.2<=10)->(∀ q∈l,Pin q)->∀ {xl:SV},LstE jb8 7 xl l->∀ {h:Hp} {Q:AV->Hp->Prop},WC F 18 [.agg [si m.1,si m.2],.s xl] h Q=Q (.agg (qp1 (jev m l))) h
 p:∀ {n k:Int},-9223372036854775808<=n->n<=9223372036854775807->0<k->k<=9223372036854775807->∀ {h:Hp} {Q:AV->Hp->Prop},WC F 8 [vi n,vi k] h Q=Q (vi (pick n k)) h
theorem qg9 {g:FuncId} (h1:SSh g=false) (h2:SK1 g=false) (h3:Lf g=false):jc1 FT1 g vs h=jc1 F11 g vs h:=(ja0 h1).trans ((jh0 (jl9 h3)).trans (ja0 h2))
end
theorem jzy {F:Fns} {st fr:List AV} {es:List Ent} {h:Hp} {dst:Option Nat} {l:List (IOper×Option (List Nat))} {Q:Ex->St->Prop} {e:TypeId} {z:List SV} {js:List Nat} {hd:List (Nat×Nat)} (k:Ok h) (hs:sel es js []=some hd) (hh:jaq hd h.next=false) :
 WD F ((.mk dst (.a (.new e z)) none,some js)::l) st es fr h Q=WD F l (.s (.ptr h.next 0)::st) (.mk [(h.next,Nat.succ h.next)] (some [])::es) (jc0 fr dst (.s (.ptr h.next 0))) (h.push (.arr z e)) Q:=by
 rw[jyo (x:=some (DR.mk (.s (.ptr h.next 0)) (h.push (.arr z e)) (.mk [(h.next,Nat.succ h.next)] (some [])))) (fun cl=>?_)]
 .exact jcy
 .cases h with
  | mk n1 t lo hid =>
  obtain rfl:hid=[]:=k.hid
  obtain rfl:lo=0:=k.lo
  have hh':jaq hd n1=false:=hh
  have hi:iop cl st fr (.mk n1 t n1 hd) (.a (.new e z))=some (.s (.ptr n1 0),.mk (Nat.succ n1) (t.put (Nat.succ n1) n1 (some (.arr z e))) n1 hd):=by
   show oif (jaq hd n1) none (some (AV.s (.ptr n1 0),Hp.mk (Nat.succ n1) (t.put (Nat.succ n1) n1 (some (.arr z e))) n1 hd))=_
   rw[hh'];rfl
  show ob (sel es js []) (fun hid'=>jmm cl st fr n1 t 0 n1 [] hid' (.a (.new e z)) (fun n'=>.mk [(n1,n')] (some [])))=_
  rw[hs]
  show ob (iop cl st fr (.mk n1 t n1 hd) (.a (.new e z))) _=_
  rw[hi]
  rfl
theorem Wrn.out {h:Hp} {p:Nat} {ns:List Nat} (n:Nat) (h0:n<h.next) (hn:n∉p::ns) {h':Hp} {ns':List Nat} (m:Mv h h' (p::ns) (p::ns')):n<h'.next/\n∉p::ns':=⟨f0o h0 m.nx,fun hc=>by
 rcases m.new n hc with h1 | h1
 .exact hn h1
 .omega⟩
theorem WrS.fresh {h:Hp} {p:Nat} {ws ns:List Nat} (w:WrS h p ws ns):h.next∉p::ns:=fun hc=>by
 rcases f0f.1 hc with h1 | h1
 .have:=w.p1.2;omega
 .have:=w.lt _ h1;omega
section
variable {F:Fns} (f:WrF F) {p:Nat} {Q:Ex->St->Prop}
include f
theorem qj6 {l:List Nat} (lj:LstE jav 1 xj l) (hl:l.length<=10000) :
 ∀ (d i:Nat) (_:i+d=l.length) {hi:Hp} {ws ns:List Nat} (_:WrS hi p ws ns) (_:ws.length+4*d<=40000) {x18 x20:AV}
  (hQ:∀ hj ns' x18 x20,WrS hj p (ws++((l.drop i).map jdp).flatten) ns'->Mv hi hj (p::ns) (p::ns')->Q (.exit 0) (.mk [x0,x1,x2,x3,x4,x5,x6,x7,x8,x9,x10,x11,x12,x13,x14,x15,x16,x17,x18,.s xj,x20,vi l.length,vi l.length,.s (.ptr p 0),x24,x25,x26] hj)),
  W F jnv.loop (.mk [x0,x1,x2,x3,x4,x5,x6,x7,x8,x9,x10,x11,x12,x13,x14,x15,x16,x17,x18,.s xj,x20,vi l.length,vi i,.s (.ptr p 0),x24,x25,x26] hi) Q
 | 0,i,hd,hi,ws,ns,w,hw,x18,x20,hQ=>by
  obtain rfl:i=l.length:=oa
  rw[jai]
  unfold jnv
  have ok:=w.ok
  simp(disch:=go_num) only[go_sem,f0s]
  exact hQ hi ns _ _ (by rw[f1s];simpa using w) (Mv.refl ok)
 | d+1,i,hd,hi,ws,ns,w,hw,x18,x20,hQ=>by
  have hil:i<l.length:=oa
  have hlt:(i:Int)<(l.length:Int):=oa
  have hss:(i:Int)+1=((i+1:Nat):Int):=oa
  obtain⟨n,hn⟩:∃ n,l[i]?=some n:=⟨_,f0b hil⟩
  have hdr:l.drop i=n::l.drop (i+1):=by rw[f0w hil,(f0q.1 hn).2]
  have hix:=lj.at_ hn
  have ok:=w.ok
  rw[jai]
  unfold jnv j3q
  simp(disch:=go_num) only[go_sem,jad,eq_true hlt,hix,jav]
  refine WC.imp (jzx f w (n:=n) oa) ?_
  rintro v hB ⟨n1,w1,m1⟩
  have okB:=w1.ok
  simp(disch:=go_num) only[go_sem,jad,hss]
  exact qj6 lj hl d (i+1) oa w1 (by rw[f0d];show ws.length+4+4*d<=40000;omega) (fun hj ns' x18 x20 w' m'=>hQ hj ns' x18 x20 (by rw[hdr,f0u,f0t,←f0g];exact w') (m1.trans m'))
theorem qj7 {l:List Ms.Ins} (hl:l.length<=10000) (hok:∀ x∈l,OkI x) :
 ∀ (d i:Nat) (_:i+d=l.length) {hi:Hp} {ws ns:List Nat} (_:WrS hi p ws ns) (_:ws.length+(((l.drop i).map jl5).flatten).length<=30000) {x8 x10:AV}
  (hQ:∀ hj ns' x8 x10,WrS hj p (ws++byt ((l.drop i).map jl5).flatten) ns'->Mv hi hj (p::ns) (p::ns')->Q (.exit 4) (.mk [x0,x1,x2,x3,x4,x5,x6,x7,x8,.s (jaf jdd l),x10,vi l.length,vi l.length,x13,x14,x15,x16,x17,x18,x19,x20,x21,x22,.s (.ptr p 0),x24,x25,x26] hj)),
  W F jnw.loop (.mk [x0,x1,x2,x3,x4,x5,x6,x7,x8,.s (jaf jdd l),x10,vi l.length,vi i,x13,x14,x15,x16,x17,x18,x19,x20,x21,x22,.s (.ptr p 0),x24,x25,x26] hi) Q
 | 0,i,hd,hi,ws,ns,w,hw,x8,x10,hQ=>by
  obtain rfl:i=l.length:=oa
  rw[jai]
  unfold jnw
  have ok:=w.ok
  simp(disch:=go_num) only[go_sem,f0s]
  exact hQ hi ns _ _ (by rw[f1s];simpa[byt] using w) (Mv.refl ok)
 | d+1,i,hd,hi,ws,ns,w,hw,x8,x10,hQ=>by
  have hil:i<l.length:=oa
  have hlt:(i:Int)<(l.length:Int):=oa
  have hss:(i:Int)+1=((i+1:Nat):Int):=oa
  obtain⟨x,hx⟩:∃ n,l[i]?=some n:=⟨_,f0b hil⟩
  have hdr:l.drop i=x::l.drop (i+1):=by rw[f0w hil,(f0q.1 hx).2]
  have hix:=jaj (enc:=jdd) (size:=3) hx rfl
  have ok:=w.ok
  obtain⟨hA,eA,okA,nA,xA,gA⟩:=jby ok Zg (jdd x) 62
  have wA:=w.keep okA gA oa
  rw[hdr,f0u,f0t,f0d] at hw
  have eA':=eA
  have xA':=xA
  unfold jdd at xA eA
  rw[jai]
  unfold jnw j3r
  simp(disch:=go_num) only[go_sem,jad,eq_true hlt,hix,jdd,eA,xA]
  refine WC.imp (qpa f wA (hok x (f0c hx)) oa) ?_
  rintro v hB ⟨n1,w1,m1⟩
  have okB:=w1.ok
  simp(disch:=go_num) only[go_sem,jad,hss]
  exact qj7 hl hok d (i+1) oa w1 (by rw[f0d,jfk];omega) (fun hj ns' x8 x10 w' m'=>hQ hj ns' x8 x10 (by rw[hdr,f0u,f0t,jfj,←f0g];exact w') ((Mv.low okA oa gA _).trans (m1.trans m')))
theorem qj8 {l:List Ms.Edg} (hl:l.length<=10000) :
 ∀ (d i:Nat) (_:i+d=l.length) {hi:Hp} {ws ns:List Nat} (_:WrS hi p ws ns) (_:ws.length+(((l.drop i).map jxe).flatten).length<=30000) {x3 x5:AV}
  (hQ:∀ hj ns' x3 x5,WrS hj p (ws++byt ((l.drop i).map jxe).flatten) ns'->Mv hi hj (p::ns) (p::ns')->Q (.exit 6) (.mk [x0,x1,x2,x3,.s (jaf jeo l),x5,vi l.length,vi l.length,x8,x9,x10,x11,x12,x13,x14,x15,x16,x17,x18,x19,x20,x21,x22,.s (.ptr p 0),x24,x25,x26] hj)),
  W F jnx.loop (.mk [x0,x1,x2,x3,.s (jaf jeo l),x5,vi l.length,vi i,x8,x9,x10,x11,x12,x13,x14,x15,x16,x17,x18,x19,x20,x21,x22,.s (.ptr p 0),x24,x25,x26] hi) Q
 | 0,i,hd,hi,ws,ns,w,hw,x3,x5,hQ=>by
  obtain rfl:i=l.length:=oa
  rw[jai]
  unfold jnx
  have ok:=w.ok
  simp(disch:=go_num) only[go_sem,f0s]
  exact hQ hi ns _ _ (by rw[f1s];simpa[byt] using w) (Mv.refl ok)
 | d+1,i,hd,hi,ws,ns,w,hw,x3,x5,hQ=>by
  have hil:i<l.length:=oa
  have hlt:(i:Int)<(l.length:Int):=oa
  have hss:(i:Int)+1=((i+1:Nat):Int):=oa
  obtain⟨x,hx⟩:∃ n,l[i]?=some n:=⟨_,f0b hil⟩
  have hdr:l.drop i=x::l.drop (i+1):=by rw[f0w hil,(f0q.1 hx).2]
  have hix:=jaj (enc:=jeo) (size:=2) hx rfl
  have ok:=w.ok
  obtain⟨hA,eA,okA,nA,xA,gA⟩:=jby ok Zh (jeo x) 65
  have wA:=w.keep okA gA oa
  have fA:=w.fresh
  rw[hdr,f0u,f0t,f0d] at hw
  have hxl:(jxe x).length=2+x.args.length:=by show(x.block::x.args.length::x.args).length=_;simp;omega
  unfold jeo at xA eA
  rw[jai]
  unfold jnx j3s
  simp(disch:=go_num) only[go_sem,jad,eq_true hlt,hix,jeo,eA,xA]
  refine WC.imp (wsb f wA (l:=[x.block]) (by simp;omega)) ?_
  rintro v hB ⟨n1,w1,m1⟩
  have okB:=w1.ok
  have xB:=(m1.keep hi.next oa fA).trans xA
  simp(disch:=go_num) only[go_sem,xB]
  refine WC.imp (jzw f w1 (l:=x.args) (by rw[f0d,jfk];show ws.length+1+_+1<=_;omega)) ?_
  rintro v hC ⟨n2,w2,m2⟩
  have okC:=w2.ok
  simp(disch:=go_num) only[go_sem,jad,hss]
  have e2:(ws++byt [x.block])++byt (jxd x.args)=ws++byt (jxe x):=by rw[f0g,←jfj];rfl
  rw[e2] at w2
  exact qj8 hl d (i+1) oa w2 (by rw[f0d,jfk];omega) (fun hj ns' x3 x5 w' m'=>hQ hj ns' x3 x5 (by rw[hdr,f0u,f0t,jfj,←f0g];exact w') ((Mv.low okA oa gA _).trans (m1.trans (m2.trans m'))))
theorem qj9 {l:List Ms.Blk} (hl:l.length<=10000) (hok:∀ b∈l,OkB b) :
 ∀ (d i:Nat) (_:i+d=l.length) {hi:Hp} {ws ns:List Nat} (_:WrS hi p ws ns) (_:ws.length+(((l.drop i).map qbp).flatten).length<=30000) {x3 x4 x5 x6 x7 x8 x9 x10 x11 x12 x13 x15:AV}
  (hQ:∀ hj ns' x3 x4 x5 x6 x7 x8 x9 x10 x11 x12 x13 x15,WrS hj p (ws++byt ((l.drop i).map qbp).flatten) ns'->Mv hi hj (p::ns) (p::ns')->Q (.exit 2) (.mk [x0,x1,x2,x3,x4,x5,x6,x7,x8,x9,x10,x11,x12,x13,.s (jaf ja6 l),x15,vi l.length,vi l.length,x18,x19,x20,x21,x22,.s (.ptr p 0),x24,x25,x26] hj)),
  W F jny.loop (.mk [x0,x1,x2,x3,x4,x5,x6,x7,x8,x9,x10,x11,x12,x13,.s (jaf ja6 l),x15,vi l.length,vi i,x18,x19,x20,x21,x22,.s (.ptr p 0),x24,x25,x26] hi) Q
 | 0,i,hd,hi,ws,ns,w,hw,x3,x4,x5,x6,x7,x8,x9,x10,x11,x12,x13,x15,hQ=>by
  obtain rfl:i=l.length:=oa
  rw[jai]
  unfold jny
  have ok:=w.ok
  simp(disch:=go_num) only[go_sem,f0s]
  exact hQ hi ns _ _ _ _ _ _ _ _ _ _ _ _ (by rw[f1s];simpa[byt] using w) (Mv.refl ok)
 | d+1,i,hd,hi,ws,ns,w,hw,x3,x4,x5,x6,x7,x8,x9,x10,x11,x12,x13,x15,hQ=>by
  have hil:i<l.length:=oa
  have hlt:(i:Int)<(l.length:Int):=oa
  have hss:(i:Int)+1=((i+1:Nat):Int):=oa
  obtain⟨x,hx⟩:∃ n,l[i]?=some n:=⟨_,f0b hil⟩
  have hdr:l.drop i=x::l.drop (i+1):=by rw[f0w hil,(f0q.1 hx).2]
  have hix:=jaj (enc:=ja6) (size:=3) hx rfl
  have kx:=hok x (f0c hx)
  have ok:=w.ok
  obtain⟨hA,eA,okA,nA,xA,gA⟩:=jby ok Zi (ja6 x) 58
  have wA:=w.keep okA gA oa
  have fA:=w.fresh
  rw[hdr,f0u,f0t,f0d] at hw
  have hxl:(qbp x).length=1+x.params.length+(1+((x.instrs.map jl5).flatten.length+(1+(x.edges.map jxe).flatten.length))):=by
   unfold qbp jxd;simp only[f0d,f0i];omega
  have l1:=jah (enc:=jdd) (l:=x.instrs)
  have l2:=jah (enc:=jeo) (l:=x.edges)
  have hni:=kx.ni
  have hne:=kx.ne
  unfold ja6 at xA eA
  rw[jai]
  unfold jny j3t
  simp(disch:=go_num) only[go_sem,jad,eq_true hlt,hix,ja6,eA,xA]
  refine WC.imp (jzw f wA (l:=x.params) oa) ?_
  rintro v hB ⟨n1,w1,m1⟩
  have okB:=w1.ok
  have xB:=(m1.keep hi.next oa fA).trans xA
  obtain⟨bB,fB⟩:=Wrn.out hi.next oa fA m1
  have e1:(ws++byt (jxd x.params)).length=ws.length+(1+x.params.length):=by rw[f0d,jfk];show _+(x.params.length+1)=_;omega
  simp(disch:=go_num) only[go_sem,xB,l1]
  refine WC.imp (wsb f w1 (l:=[x.instrs.length]) (by simp only[f0i,f00];omega)) ?_
  rintro v hC ⟨n2,w2,m2⟩
  have okC:=w2.ok
  have xC:=(m2.keep hi.next bB fB).trans xB
  obtain⟨bC,fC⟩:=Wrn.out hi.next bB fB m2
  have e2:((ws++byt (jxd x.params))++byt [x.instrs.length]).length=ws.length+(1+x.params.length)+1:=by rw[f0d,e1];rfl
  simp(disch:=go_num) only[go_sem,xC,l1]
  refine qj7 f (l:=x.instrs) oa kx.i x.instrs.length 0 oa w2 (by rw[e2,f1f];omega) (fun hD n3 x8 x10 w3 m3=>?_)
  rw[f1f] at w3
  have okD:=w3.ok
  have xD:=(m3.keep hi.next bC fC).trans xC
  obtain⟨bD,fD⟩:=Wrn.out hi.next bC fC m3
  have e3:(((ws++byt (jxd x.params))++byt [x.instrs.length])++byt (x.instrs.map jl5).flatten).length=ws.length+(1+x.params.length)+1+(x.instrs.map jl5).flatten.length:=by rw[f0d,e2,jfk]
  simp(disch:=go_num) only[go_sem,xD,l2]
  refine WC.imp (wsb f w3 (l:=[x.edges.length]) (by simp only[f0i,f00];omega)) ?_
  rintro v hE ⟨n4,w4,m4⟩
  have okE:=w4.ok
  have xE:=(m4.keep hi.next bD fD).trans xD
  have e4:((((ws++byt (jxd x.params))++byt [x.instrs.length])++byt (x.instrs.map jl5).flatten)++byt [x.edges.length]).length=ws.length+(1+x.params.length)+1+(x.instrs.map jl5).flatten.length+1:=by rw[f0d,e3];rfl
  simp(disch:=go_num) only[go_sem,xE,l2]
  refine qj8 f (l:=x.edges) oa x.edges.length 0 oa w4 (by rw[e4,f1f];omega) (fun hG n5 x3 x5 w5 m5=>?_)
  rw[f1f] at w5
  have okG:=w5.ok
  have e5:((((ws++byt (jxd x.params))++byt [x.instrs.length])++byt (x.instrs.map jl5).flatten)++byt [x.edges.length])++byt (x.edges.map jxe).flatten=ws++byt (qbp x):=by
   simp only[f0g,←jfj];rfl
  rw[e5] at w5
  simp(disch:=go_num) only[go_sem,jad,hss]
  exact qj9 hl hok d (i+1) oa w5 (by rw[f0d,jfk];omega) (fun hj ns' x3 x4 x5 x6 x7 x8 x9 x10 x11 x12 x13 x15 w' m'=>hQ hj ns' x3 x4 x5 x6 x7 x8 x9 x10 x11 x12 x13 x15 (by rw[hdr,f0u,f0t,jfj,←f0g];exact w') ((Mv.low okA oa gA _).trans (m1.trans (m2.trans (m3.trans (m4.trans (m5.trans m')))))))
end
def q1k (h:Hp) (n size:Nat) (x:Option AV):R:=ob x (fun v=>jeh v (fun b o=>ob (rd h b o (Nat.mul n size)) (fun _=>ok (.s (.slice b o n n true size)) h)) (fun cs=>ob (j6e size n cs) (fun rows=>ok (.s (.lst rows)) h)))
theorem qud {st fr:List AV} {h:Hp} {n size:Nat} {x:Od}:jd8 st fr h (.slicea n size x)=q1k h n size (ev st fr x):=rfl
theorem qpc {h:Hp} {n size b o:Nat} {row:List SV} (hr:rdB (h.get b) o (n*size)=some row):q1k h n size (some (.s (.ptr b o)))=some (.s (.slice b o n n true size),h):=by
 show ob (rdB (h.get b) o (n*size)) (fun _=>some (AV.s (.slice b o n n true size),h))=_
 rw[hr];rfl
def qp3 (n:Nat):List SV:=[.int .u8 n]
def qu9 (l:List Nat):AV:=.tup [(false,[jaf qp3 l]),(false,[si 0])]
theorem qpd {kk:Bool} {h:Hp} {x:SV} {l ns:List Nat} (k:Sl h 5 1 false EY x l ns):jf9 kk h 3 (.tup [(false,[x]),(false,[.int .i64 0])])=some (qu9 l):=by
 show ob (ob (jgb (jfl kk h 3) [x]) (fun x=>ob (qc6 (jfl kk h 3) [(false,[.int .i64 0])]) (fun r=>some ((false,x)::r)))) (fun y=>some (AV.tup y))=_
 rw[qfs (k.frz (enc:=qp3) (fun _ _ _ e=>by obtain⟨rfl,_⟩:=e;rfl) (fun _=>rfl))]
 rfl
theorem qpe {F:Fns} (f:WrF F) {h:Hp} (ok:Ok h) {s:Scr} (lq:LstE jav 1 xj s.junk) {kk:Bool} (k:OkS s) (hb:(j2l s).length<=20000) (hC:∀ h Q,WC F 10 [.agg (jxt s xj)] h Q=Q (vi 0) h):WC F 21 [.agg (jxt s xj)] h (fun v h'=>∃ d,jf9 kk h' d v=some (qu9 (byt (j2l s)))):=by
 refine jaz (f.x _ rfl _ _) ((congrFun f.t _).trans quc) rfl ?_
 unfold qco
 obtain⟨hA,eA,okA,nA,xA,gA⟩:=jdw ok (jxt s xj) 34
 have hlen:(j2l s).length=2+(4+(4+(1+((s.junk.map jdp).flatten.length+(1+s.f.values.length+(1+(s.f.blocks.map qbp).flatten.length)))))):=by
  unfold j2l jxd jdp;simp only[f0d,f0i,f00];omega
 have hjl:(s.junk.map jdp).flatten.length=4*s.junk.length:=by
  generalize s.junk=q
  induction q with
  | nil=>rfl
  | cons a q ih=>rw[f0u,f0t,f0d,ih];show 4+_=4*(q.length+1);omega
 have hnj:=k.nj
 have hnb:=k.nb
 have hpos:=ok.pos
 obtain⟨hB,eB,okB,nB,xB,gB⟩:=jdw okA [.nilSlice] 102
 have w0:WrS hB hA.next [] []:=⟨okB,⟨_,xB,.nil⟩,⟨oa,oa⟩,se,se⟩
 have zA:=(gB h.next oa).trans xA
 have a0:h.next∉[hA.next]:=by simp;omega
 have lj:=lq.len
 have lb:=jah (enc:=ja6) (l:=s.f.blocks)
 unfold jxt at eA zA
 rw[nA] at w0 a0 xB
 have hC':=hC
 unfold jxt at hC' ⊢
 simp(disch:=go_num) only[go_sem,eA,xA,jxt,hC']
 unfold j3u
 have hrow:rdB (hB.get h.next) 0 (2*1)=some [si s.m1,si s.m2]:=by rw[zA];rfl
 simp(disch:=go_num) only[go_sem,nA,eB,qud,qpc hrow]
 have sc:∀ {hj:Hp} {n1:List Nat},h.next<hj.next/\h.next∉(h.next+1)::n1->∀ {hk:Hp} {n2:List Nat},Mv hj hk ((h.next+1)::n1) ((h.next+1)::n2)->h.next<hk.next/\h.next∉(h.next+1)::n2:=by intro hj n1 g hk n2 m;exact Wrn.out h.next g.1 g.2 m
 refine WC.imp (jzv f w0 (l:=[s.m1,s.m2]) (.inr ⟨h.next,0,2,true,_,_,rfl,zA,oa,a0,fun i n hi=>by
  match i,hi with
  | 0,hi=>cases hi;rfl
  | 1,hi=>cases hi;rfl⟩) se) ?_
 rintro v h1 ⟨n1,w1,m1⟩
 have ok1:=w1.ok
 have b1:=sc ⟨oa,a0⟩ m1
 have z1:=(m1.keep h.next oa a0).trans zA
 simp(disch:=go_num) only[go_sem,z1]
 refine WC.imp (jzx f w1 (n:=s.seed) (by simp[byt])) ?_
 rintro v h2 ⟨n2,w2,m2⟩
 have ok2:=w2.ok
 have b2:=sc b1 m2
 have z2:=(m2.keep h.next b1.1 b1.2).trans z1
 simp(disch:=go_num) only[go_sem,z2]
 refine WC.imp (jzx f w2 (n:=s.steps) (by simp[byt,jdp])) ?_
 rintro v h3 ⟨n3,w3,m3⟩
 have ok3:=w3.ok
 have b3:=sc b2 m3
 have z3:=(m3.keep h.next b2.1 b2.2).trans z2
 simp(disch:=go_num) only[go_sem,z3,lj]
 refine WC.imp (wsb f w3 (l:=[s.junk.length]) (by simp[byt,jdp])) ?_
 rintro v h4 ⟨n4,w4,m4⟩
 have ok4:=w4.ok
 have b4:=sc b3 m4
 have z4:=(m4.keep h.next b3.1 b3.2).trans z3
 simp(disch:=go_num) only[go_sem,z4,lj]
 refine qj6 f lq oa s.junk.length 0 oa w4 (by simp[byt,jdp];omega) (fun h5 n5 x18 x20 w5 m5=>?_)
 rw[f1f] at w5
 have ok5:=w5.ok
 have b5:=sc b4 m5
 have z5:=(m5.keep h.next b4.1 b4.2).trans z4
 simp(disch:=go_num) only[go_sem,z5]
 have q5:([]++byt [s.m1,s.m2]++jdp s.seed++jdp s.steps++byt [s.junk.length]++(s.junk.map jdp).flatten).length=11+(s.junk.map jdp).flatten.length:=by simp[byt,jdp];omega
 refine WC.imp (jzw f w5 (l:=s.f.values) (by rw[q5];omega)) ?_
 rintro v h6 ⟨n6,w6,m6⟩
 have ok6:=w6.ok
 have b6:=sc b5 m6
 have z6:=(m6.keep h.next b5.1 b5.2).trans z5
 simp(disch:=go_num) only[go_sem,z6,lb]
 have q6:([]++byt [s.m1,s.m2]++jdp s.seed++jdp s.steps++byt [s.junk.length]++(s.junk.map jdp).flatten++byt (jxd s.f.values)).length=11+(s.junk.map jdp).flatten.length+(1+s.f.values.length):=by rw[f0d,q5,jfk];show _+(s.f.values.length+1)=_;omega
 refine WC.imp (wsb f w6 (l:=[s.f.blocks.length]) (by rw[q6];show _+1<=_;omega)) ?_
 rintro v h7 ⟨n7,w7,m7⟩
 have ok7:=w7.ok
 have b7:=sc b6 m7
 have z7:=(m7.keep h.next b6.1 b6.2).trans z6
 simp(disch:=go_num) only[go_sem,z7,lb]
 refine qj9 f (l:=s.f.blocks) oa k.b s.f.blocks.length 0 oa w7 (by rw[f0d,q6,f1f];show _+1+_<=_;omega) (fun h8 n8 x3 x4 x5 x6 x7 x8 x9 x10 x11 x12 x13 x15 w8 m8=>?_)
 rw[f1f] at w8
 have ok8:=w8.ok
 obtain⟨x,p1,p2⟩:=w8.ex
 simp(disch:=go_num) only[go_sem,p1]
 have wd:∀ n,byt (jdp n)=jdp n:=fun n=>qcr (fun m hm=>by
  unfold jdp at hm
  simp only[f0f,f1e,or_false] at hm
  omega)
 have wj:byt (s.junk.map jdp).flatten=(s.junk.map jdp).flatten:=by
  generalize s.junk=q
  induction q with
  | nil=>rfl
  | cons a q ih=>rw[f0u,f0t,jfj,wd,ih]
 have e:[]++byt [s.m1,s.m2]++jdp s.seed++jdp s.steps++byt [s.junk.length]++(s.junk.map jdp).flatten++byt (jxd s.f.values)++byt [s.f.blocks.length]++byt (s.f.blocks.map qbp).flatten=byt (j2l s):=by
  rw[←wd s.seed,←wd s.steps,←wj]
  simp only[f1m,←jfj,f0g]
  rfl
 rw[e] at p2
 exact⟨3,qpd p2⟩
theorem juu {n k:Nat} (h:n<10 ^ k) (hk:1<=k):(ito n).length<=k:=jt3 19 n k [] h hk
theorem jr2 {k:Nat} (hk:1<=k):∀ {l:List Nat},(∀ n∈l,n<10 ^ k)->(ji1 l).length<=(k+1)*l.length
 | [],_=>by simp[ji1]
 | n::l,h=>by
  have h1:=jr2 hk (l:=l) fun m hm=>h m (by grind)
  have h2:=juu (h n se) hk
  grind[jkp,f0d,f0i,Nat.mul_succ]
theorem j3v {α:Type} {f:α->List UInt8} {c:α->Nat}:∀ {l:List α},(∀ a∈l,(f a).length<=c a)->((l.map f).flatten).length<=(l.map c).sum
 | [],_=>f0h _
 | a::l,h=>by
  rw[f0u,f0t,f0d,f0u,f2m]
  exact Nat.add_le_add (h a se) (j3v fun b hb=>h b (by grind))
section
variable {m:Nat×Nat} {f:Fc} {s:List Bool} {x:Scr}
theorem que (m1:m.1<=10) (m2:m.2<=10) {y:Ms.Ins} {vs:List Nat} (i:InsOk m vs y) {o:Ms.Opd} (ho:o∈y.ops):o.n<10:=by
 have q:=i.opd o ho
 have hg:∀ c,g2 m c<=10:=fun c=>by unfold g2;grind
 have h5:=i.nops
 have h7:=q.lim
 by_cases e:o.limit=5
 .obtain ⟨u,hu,_⟩:=i.reu o ho e
  grind
 .by_cases e2:o.limit=4
  .have:=q.fix e2
   grind
  .have:=q.zero oa
   omega
theorem ScG.len (k:ScG f m s x):(jqx x).length<=59900:=by
 have kc:=k.o.k
 have hnv:=kc.nv
 have hnb:=kc.nb
 have hall:=kc.all
 have hm1:=k.m1
 have hm2:=k.m2
 have hg:∀ c,g2 m c<=10:=fun c=>by unfold g2;split<;>omega
 have ef:=k.ef
 subst ef
 have hb:∀ b∈x.f.blocks,(jzq b).length<=353*b.instrs.length+110:=fun b hb=>by
  obtain⟨h1,h2,h3⟩:=kc.blk b hb
  have p1:=jr2 (k:=3) oa (l:=b.params) (fun v hv=>by have:=kc.prm b hb v hv;omega)
  have i1:((b.instrs.map j2n).flatten).length<=353*b.instrs.length:=jd6 (fun y hy=>by
   have i:=kc.ins b hb y hy
   have h4:=i.op
   have h5:=i.nops
   have h6:=i.nsp
   have o1:=jd6 (f:=jzp) (k:=21) (l:=y.ops) (fun o ho=>by
    have q:=i.opd o ho
    have q1:=juu (n:=o.value) (k:=3) (by have:=q.val;omega) oa
    have q2:=juu (n:=o.n) (k:=1) (by have:=que oa oa i ho;omega) oa
    have q3:(kw o.kind).length<=3:=by unfold kw;split<;>simp
    have q4:(lw o.limit).length<=5:=by unfold lw;split<;>simp
    unfold jzp jxf
    simp only[f0d,f0i,f00]
    split<;>split<;>simp only[f0d,f0i,f00]<;>omega)
   have s1:=jd6 (f:=j51) (k:=11) (l:=y.spoils) (fun r hr=>by
    obtain⟨h7,h8⟩:=i.spo r hr
    have q1:=juu (n:=r.1) (k:=1) oa oa
    have q2:=juu (n:=r.2) (k:=1) (by have:=hg r.1;omega) oa
    unfold j51
    simp only[f0d,f0i,f00];omega)
   have q:=juu (n:=y.op) (k:=3) oa oa
   unfold j2n
   simp only[f0d,f0i,f00];omega)
  have e1:=jd6 (f:=j56) (k:=28) (l:=b.edges) (fun e he=>by
   obtain⟨_,h4,t,h5,h6,_⟩:=kc.edg b hb e he
   have h7:=(f0q.1 h5).1
   have h8:=congrArg List.length h6
   simp only[f03] at h8
   have h9:=(kc.blk t (f0c h5)).1
   have q1:=juu (n:=e.block) (k:=2) oa oa
   have q2:=jr2 (k:=3) oa (l:=e.args) (fun v hv=>by have:=h4 v hv;omega)
   unfold j56
   simp only[f0d,f0i,f00];omega)
  unfold jzq
  simp only[f0d,f0i,f00];omega
 have h1:((x.f.blocks.map jzq).flatten).length<=(x.f.blocks.map (fun b=>353*b.instrs.length+110)).sum:=j3v hb
 have h2:(x.f.blocks.map (fun b=>353*b.instrs.length+110)).sum=353*sm x.f.blocks+110*x.f.blocks.length:=by
  unfold sm
  generalize x.f.blocks=q
  induction q with
  | nil=>rfl
  | cons a q ih=>simp only[f0u,f2m,f0i,ih];omega
 have v1:=jr2 (k:=1) oa (l:=x.f.values) (fun v hv=>by have:=kc.cls v hv;omega)
 have j1:=jr2 (k:=10) oa (l:=x.junk) (fun v hv=>by have:=k.j2 v hv;omega)
 have j2:=k.j1
 have g1:=jr2 (k:=2) oa (l:=[x.m1,x.m2]) (fun v hv=>by
  simp only[f0f,f1e,or_false] at hv
  have:=k.e1;have:=k.e2
  rcases hv with rfl | rfl<;>omega)
 have sd:=juu (n:=x.seed) (k:=10) (by have:=k.sd;omega) oa
 have st:=juu (n:=x.steps) (k:=4) (by have:=k.st;omega) oa
 unfold jqx
 simp only[f0d,f0i,f00] at g1 ⊢
 omega
theorem ScG.sct (k:ScG f m s x):ScT x:=by
 have kc:=k.o.k
 have hnv:=kc.nv
 have hnb:=kc.nb
 have hm1:=k.m1
 have hm2:=k.m2
 have hg:∀ c,g2 m c<=10:=fun c=>by unfold g2;grind
 have ef:=k.ef
 subst ef
 refine⟨⟨by rw[k.e1];omega,by rw[k.e2];omega,by have:=k.sd;omega,by have:=k.st;omega⟩,fun n hn=>by have:=k.j2 n hn;omega,fun n hn=>by have:=kc.cls n hn;omega,fun b hb=>⟨fun n hn=>by have:=kc.prm b hb n hn;omega,fun y hy=>?_,fun e he=>?_⟩⟩
 .have i:=kc.ins b hb y hy
  refine⟨by have:=i.op;omega,fun o ho=>?_,fun r hr=>?_⟩
  .have q:=i.opd o ho
   exact⟨by have:=q.kind;omega,q.lim,by have:=q.val;omega,by have:=que oa oa i ho;omega,q.zero⟩
  .obtain ⟨h7,h8⟩:=i.spo r hr
   have:=hg r.1
   omega
 .obtain ⟨_,h4,t,h5,_⟩:=kc.edg b hb e he
  have h7:=(f0q.1 h5).1
  exact⟨oa,fun v hv=>by have:=h4 v hv;omega⟩
theorem ScG.chain {F:Fns} (tf:TkF F) (k:ScG f m s x):Chain F 0 qt0 (j58 x) x:=by
 have kc:=k.o.k
 have hnb:=kc.nb
 have ef:=k.ef
 subst ef
 exact qub tf k.sct (by have:=k.len;omega) oa fun b hb=>by have:=kc.blk b hb;omega
end
theorem qha (s:Scr):(j58 s).length=3+(s.f.blocks.map (fun b=>1+b.instrs.length+b.edges.length)).sum:=by
 unfold j58 qgw
 have:∀ l:List Ms.Blk,((l.map j2r).flatten).length=(l.map (fun b=>1+b.instrs.length+b.edges.length)).sum:=fun l=>by
  induction l with
  | nil=>rfl
  | cons b l ih =>
   rw[f0u,f0t,f0d,ih,f0u,f2m]
   unfold j2r
   grind
 grind
def jkS (l:List Int):List Nat:=(l.take 64).map (fun n=>pk n 1073741824)
theorem jxv {n:Int}:pick n 1073741824=((pk n 1073741824:Nat):Int):=jbm (m:=1073741824) oa
theorem j53 {n:Int}:pick n 400=((pk n 400:Nat):Int):=jbm (m:=400) oa
theorem qpf (l:List Int):(jkS l).length<=64:=by unfold jkS;rw[f03,f1r];omega
theorem quf (l:List Int):∀ n∈jkS l,n<1073741824:=fun n hn=>by
 unfold jkS at hn
 obtain⟨q,_,rfl⟩:=f1j.1 hn
 exact jew oa
structure SjS (p g:Nat) (u:List SV) (h:Hp) (l:List Nat):Prop where
 ok:Ok h
 ex:∃ x ns,h.get p=some (.arr (u++[x]) 34)/\Sl h 3 1 false EI x l ns/\ns.Nodup/\∀ n∈ns,p<n/\n<h.next
 g0:h.get g=some (.arr Ze 34)
 ne:1<=g/\g<p/\p<h.next
theorem qka {F:Fns} {l:List Int} (hl:∀ n∈l,In6 n) {xl:SV} (lx:LstE jhf 1 xl l) (hP:∀ h n Q,In6 n->WC F 8 [vi n,vi 1073741824] h Q=Q (vi (pick n 1073741824)) h)
 {p g:Nat} {s1 s2 s3 s4 s5 s6:SV} {x0 x1 x2 x3 x4 x10:AV} {Q:Ex->St->Prop} :
 ∀ (d i:Nat) (_:i+d=min l.length 64) {hi:Hp} {ws:List Nat} (_:SjS p g [s1,s2,s3,s4,s5,s6] hi ws) (_:ws.length=i) {x8:AV}
  (hQ:∀ hj x8,SjS p g [s1,s2,s3,s4,s5,s6] hj (ws++((l.take 64).drop i).map (fun n=>pk n 1073741824))->Q (.exit 0) (.mk [x0,x1,x2,x3,x4,.s xl,.s (.ptr g 0),.s (.ptr p 0),x8,vi (min l.length 64:Nat),x10] hj)),
  W F jtw.loop (.mk [x0,x1,x2,x3,x4,.s xl,.s (.ptr g 0),.s (.ptr p 0),x8,vi i,x10] hi) Q
 | 0,i,hd,hi,ws,k,hw,x8,hQ=>by
  have ok:=k.ok
  have ll:=lx.len
  rw[jai]
  unfold jtw
  have hz:(l.take 64).drop i=[]:=f2w (by rw[f1r];omega)
  rw[hz,List.map_nil,f06] at hQ
  obtain rfl:i=min l.length 64:=oa
  by_cases h64:l.length<=64
  .have e1:min l.length 64=l.length:=oa
   rw[e1] at hQ ⊢
   simp(disch:=go_num) only[go_sem,ll,f0s]
   exact hQ hi _ k
  .have e1:min l.length 64=64:=oa
   have c1:(64:Int)<(l.length:Int):=oa
   rw[e1] at hQ ⊢
   simp(disch:=go_num) only[go_sem,ll,eq_true c1,f0s]
   exact hQ hi _ k
 | d+1,i,hd,hi,ws,k,hw,x8,hQ=>by
  have hil:i<l.length:=oa
  have hlt:(i:Int)<(l.length:Int):=oa
  have hl2:(i:Int)<64:=oa
  have hss:(i:Int)+1=((i+1:Nat):Int):=oa
  obtain⟨n,hn⟩:∃ n,l[i]?=some n:=⟨_,f0b hil⟩
  have hdr:(l.take 64).drop i=n::(l.take 64).drop (i+1):=by
   rw[f0w (by rw[f1r];omega)]
   congr 1
   rw[List.getElem_take,(f0q.1 hn).2]
  have ok:=k.ok
  have ll:=lx.len
  have hix:=lx.at_ hn
  have hin:=hl n (f0c hn)
  have wP:=fun h Q=>hP h n Q hin
  rw[jxv] at wP
  obtain⟨x,ns,c1,s,nd,c3⟩:=k.ex
  obtain⟨g1,g2,g3⟩:=k.ne
  have r1:rdB (hi.get p) 6 1=some [x]:=by rw[c1];exact jwq rfl
  obtain⟨x',hM,hN,t1,t2,t3,t4,t5,t6,t7,t8,t9,t10⟩:=qcg (j:=6) (bytes:=8) (row:=[si (pk n 1073741824)]) (a:=pk n 1073741824) (ms:=[]) ok c1 ⟨oa,g3⟩ (fun hc=>by have:=c3 p hc;omega) s (fun n hn=>by have:=c3 n hn;omega) nd rfl ⟨rfl,rfl⟩ se se oa oa
  have tl:∀ n∈ns.tail,n∈ns:=fun n hn=>f0j hn
  have t3':hM.get p=some (.arr [s1,s2,s3,s4,s5,s6,x] 34):=t3
  have t4':hM.put p (some (.arr [s1,s2,s3,s4,s5,s6,x'] 34))=hN:=t4
  have k':SjS p g [s1,s2,s3,s4,s5,s6] hN (ws++[pk n 1073741824]):=⟨t5,⟨x',_,t7,t10 (E':=EI) (fun _ _ _ _ e=>e),by
   rw[f06]
   exact f0r.2 ⟨fun hc=>by have:=c3 _ (tl _ hc);omega,nd.sublist (List.tail_sublist _)⟩,fun n hn=>by
   rcases f0f.1 hn with rfl | hn
   .omega
   .have:=c3 n (tl n (by simpa using hn));omega⟩,(t8 g oa oa (fun hc=>by have:=c3 g hc;omega)).trans k.g0,⟨g1,g2,oa⟩⟩
  have hQ':∀ hj x8,SjS p g [s1,s2,s3,s4,s5,s6] hj ((ws++[pk n 1073741824])++((l.take 64).drop (i+1)).map (fun n=>pk n 1073741824))->Q (.exit 0) (.mk [x0,x1,x2,x3,x4,.s xl,.s (.ptr g 0),.s (.ptr p 0),x8,vi (min l.length 64:Nat),x10] hj):=fun hj x8 kj=>hQ hj x8 (by rw[hdr,f0u];simpa[f0g] using kj)
  rw[jai]
  unfold jtw
  simp(disch:=go_num) only[go_sem,jad,ll,eq_true hlt,eq_true hl2,r1,hix,jhf,wP,t1,t3',t4',hss]
  exact qka hl lx hP d (i+1) oa k' (by simp;omega) hQ'
theorem qpg {F:Fns} (hX:∀ vs h,jc1 F 6 vs h=none) (hT:j4i F=T) {h:Hp} (ok:Ok h) {a b:Int} {xl:SV} {m:Nat×Nat} {f:Fc} (hw:∀ n∈w,In6 n) (lw:LstE jhf 1 xw w)
 (hM:∀ h Q,WC F 17 [vi a,vi b] h Q=Q (.agg (qp2 m)) h) (hF:∀ h Q,WC F 18 [.agg [si m.1,si m.2],.s xl] h Q=Q (.agg (qp1 f)) h)
 (hP:∀ h n k Q,In6 n->0<k->k<=9223372036854775807->WC F 8 [vi n,vi k] h Q=Q (vi (pick n k)) h) (i4:In6 seed) (i5:In6 steps) :
 WC F 6 [vi a,vi b,.s xl,vi seed,vi steps,.s xw] h (fun v h'=>∃ d,jf9 true h' d v=some (.agg (jec ⟨m.1,m.2,pk seed 1073741824,pk steps 400,jkS w,f⟩))):=by
 refine jaz (hX _ _) ((congrFun hT _).trans q0f) rfl ?_
 unfold qjf
 have hpos:=ok.pos
 obtain⟨hA,eA,okA,nA,xA,gA⟩:=jdw ok Ze 34
 obtain⟨hB,eB,okB,nB,xB,gB⟩:=jby okA Zf [si m.1,si m.2] 28
 have yA:=(gB h.next oa).trans xA
 have w1:=fun h Q=>hP h seed 1073741824 Q i4 oa oa
 have w2:=fun h Q=>hP h steps 400 Q i5 oa oa
 rw[jxv] at w1
 rw[j53] at w2
 obtain⟨hC,eC,okC,nC,xC,gC⟩:=jby okB Ze [si m.1,si m.2,jaf jav f.values,jaf ja6 f.blocks,si (pk seed 1073741824),si (pk steps 400),.nilSlice] 34
 have zC:hC.get h.next=some (.arr Ze 34):=by rw[gC _ oa,gB _ oa];exact xA
 have hh:(hB.next<=hA.next/\hA.next<hB.next)=False:=eq_false oa
 simp(disch:=go_num) only[go_sem,eA,hM,qp2,eB,xB,hF,qp1,w1,w2,hh]
 rw[jzy okB (hd:=[(hB.next,hB.next),(hB.next,hB.next),(hB.next,hB.next)]) rfl (by
  have e:∀ n:Nat,jaq [(n,n),(n,n),(n,n)] n=false:=fun n=>by simp[jaq,jat,jr7]
  exact e _)]
 simp(disch:=go_num) only[go_sem,eC,f0s]
 refine qka hw lw (fun h n Q hn=>hP h n 1073741824 Q hn oa oa) (p:=hB.next) (g:=h.next) (min w.length 64) 0 oa (ws:=[]) ⟨okC,⟨.nilSlice,[],xC,.nil,.nil,se⟩,zC,⟨oa,oa,oa⟩⟩ rfl (fun hj x8 kj=>?_)
 rw[f1f,f1m] at kj
 have okj:=kj.ok
 obtain⟨x,ns,c1,s,nd,c3⟩:=kj.ex
 have g0:=kj.g0
 obtain⟨hD,eD,okD,nD,xD,gD⟩:=jxx okj (b:=h.next) hpos (some (.arr [si m.1,si m.2,jaf jav f.values,jaf ja6 f.blocks,si (pk seed 1073741824),si (pk steps 400),x] 34))
 have c1':hj.get hB.next=some (.arr [si m.1,si m.2,jaf jav f.values,jaf ja6 f.blocks,si (pk seed 1073741824),si (pk steps 400),x] 34):=c1
 simp(disch:=go_num) only[go_sem,c1',g0,eD,xD]
 have s':=s.keep (h':=hD) (fun n hn=>gD n (by have:=c3 n hn;omega))
 refine⟨4,?_⟩
 have fv:jfl true hD 4 (jaf jav f.values)=some (jaf jav f.values):=j2d
 have fb:jfl true hD 4 (jaf ja6 f.blocks)=some (jaf ja6 f.blocks):=j2d
 exact jaa.2 ⟨_,jau rfl (jau rfl (jau fv (jau fb (jau rfl (jau rfl (jau (s'.frz (fun _ _ _ e=>EI.frz e) (fun _=>rfl)) rfl)))))),rfl⟩
def qct:IC:=.seq (.block 1 (.seq (.draw [(qM 0,.none),(qM 5,.none),(qP (.ixs 1 qb qa),.none),(qL,.some []),(qM 1,.none),(qM 5,.none),(qP (.ixs 1 qb qa),.none),(qL,.some [3]),(qQ 3 (.bin .ne (.l 4) qa),.none)]) (.cond (.g 3) (qr [qQ 2 (.mv (.c (.s (.bool false))))] .ret) .skip))) (.region [qM 5,qP (.bin .add qa (qC 1)),qT 5])
def juv:IC:=.seq (qr [qM 5,qM 0,qP (.len qa),qQ 4 (.bin .lt qc qa)] (qX 4 0)) qct
def qcu:IC:=.seq (qr [qQ 5 (.mv (qC 0))] (.block 0 (.loop juv))) (qr [qQ 2 (.mv (.c (.s (.bool true))))] .ret)
def qkb:IC:=qr [qQ 2 (.mv (.c (.s (.bool false))))] (.seq (qr [qM 0,qP (.len qa),qM 1,qP (.len qa),qQ 6 (.bin .ne qc qa)] (.cond (.g 6) (qr [qQ 2 (.mv (.c (.s (.bool false))))] .ret) .skip)) qcu)
theorem q0s:T 22=some (.mk qkb 2 5 [(.tmp 2)]):=ka
def qkc:IC:=qr [qB 8 (.box 34 (.g 0)),qB 7 (.box 34 (.g 1)),qQ 2 (.mv (.c (.s (.bool false))))] (qr [qA (.load 7 true (.g 8)),qA (.call 21 [qa]),qP (.mv qa),qP (.ext 0 qa),qP (.ext 1 qb),qQ 4 (.mv qb),qQ 6 (.mv qb)] (qr [qA (.load 7 true (.g 7)),qA (.call 21 [qa]),qP (.mv qa),qP (.ext 0 qa),qP (.ext 1 qb),qQ 3 (.mv qb),qQ 5 (.mv qb)] (qr [qM 6,qP (.bin .eq qa (qC 0)),qP (.mv qa),qR 0 true (.mv (.g 5)),qR 1 true (.bin .eq qa (qC 0)),qP (.pick qc qa (.c (.s (.bool false)))),qP (.mv qa),qR 0 true (.mv (.g 4)),qS 1 true (.strop 0 qa qa),qR 2 true (.mv (.g 3)),qS 3 true (.strop 0 qa qa),qS 4 true (.strop 1 qc qa),qP (.pick (.l 5) qa (.c (.s (.bool false)))),qP (.mv qa),qR 0 true (.mv (.g 4)),qR 1 true (.len qa),qR 2 true (.bin .gt qa (qC 0)),qP (.pick qd qa (.c (.s (.bool false)))),qP (.mv qa),qR 0 true (.fld 4 (.g 8)),qS 1 true (.load 1 false qa),qR 2 true (.fld 4 (.g 7)),qS 3 true (.load 1 false qa),qR 4 true (.bin .eq qc qa),qP (.pick (.l 5) qa (.c (.s (.bool false)))),qP (.mv qa),qR 0 true (.fld 5 (.g 8)),qS 1 true (.load 1 false qa),qR 2 true (.fld 5 (.g 7)),qS 3 true (.load 1 false qa),qR 4 true (.bin .eq qc qa),qP (.pick (.l 5) qa (.c (.s (.bool false)))),qP (.mv qa),qR 0 true (.fld 0 (.g 8)),qS 1 true (.load 2 true qa),qR 2 true (.fld 0 (.g 7)),qS 3 true (.load 2 true qa),qR 4 true (.eqv false true [false,false] qc qa),qP (.pick (.l 5) qa (.c (.s (.bool false)))),qP (.mv qa),qR 0 true (.fld 6 (.g 8)),qS 1 true (.load 1 false qa),qR 2 true (.fld 6 (.g 7)),qS 3 true (.load 1 false qa),qS 4 true (.call 22 [qc,qa]),qP (.pick (.l 5) qa (.c (.s (.bool false)))),qP (.mv qa),qR 0 true (.fld 2 (.g 8)),qR 1 true (.fld 0 qa),qS 2 true (.load 1 false qa),qR 3 true (.fld 2 (.g 7)),qR 4 true (.fld 0 qa),qS 5 true (.load 1 false qa),qS 6 true (.call 22 [qd,qa]),qP (.pick (.l 7) qa (.c (.s (.bool false)))),qP (.mv qa),qR 0 true (.fld 2 (.g 8)),qR 1 true (.fld 1 qa),qS 2 true (.load 1 false qa),qR 3 true (.len qa),qR 4 true (.fld 2 (.g 7)),qR 5 true (.fld 1 qa),qS 6 true (.load 1 false qa),qR 7 true (.len qa),qR 8 true (.bin .eq (.l 4) qa),qP (.pick (.l 9) qa (.c (.s (.bool false)))),qT 2] .ret)))
theorem q0t:T 9=some (.mk qkc 2 7 [(.tmp 2)]):=ka
theorem qug {k:Bool} {h:Hp} {d:Nat} {v:AV} {n:Int} (e:jf9 k h d v=some (vi n)):v=vi n:=by
 cases v with
 | s x =>
  obtain⟨y,h1,h2⟩:=jaa.1 (show ob (jfl k h d x) (fun y=>some (AV.s y))=some (vi n) from e)
  simp only[Option.some.injEq,AV.s.injEq] at h2
  subst h2
  cases d with
  | zero=>cases h1
  | succ d =>
   cases x with
   | slice b off len mc ex sz =>
    cases len with
    | zero=>cases h1
    | succ len =>
     obtain⟨cs,_,h1⟩:=jaa.1 (show ob (rd h b off (Nat.mul (len+1) sz)) (fun cs=>ob (jgb (jfl k h d) cs) (fun cs=>ob (jox sz (len+1) cs) (fun rows=>some (SV.lst rows))))=_ from h1)
     obtain⟨cs,_,h1⟩:=jaa.1 h1
     obtain⟨cs,_,h1⟩:=jaa.1 h1
     cases h1
   | lst rows=>cases k<;>cases rows<;>cases h1
   | int k n=>cases h1;rfl
   | _=>cases h1
 | agg l =>
  obtain⟨y,h1,h2⟩:=jaa.1 (show ob (jgb (jfl k h d) l) (fun y=>some (AV.agg y))=some (vi n) from e)
  cases h2
 | tup l =>
  obtain⟨y,h1,h2⟩:=jaa.1 (show ob (qc6 (jfl k h d) l) (fun y=>some (AV.tup y))=some (vi n) from e)
  cases h2
 | _=>cases e
theorem ji7.scal {F:Fns} {f:FuncId} {us:List AV} {n:Int} (k:ji7 true F f us (vi n)):ji7 false F f us (vi n) :=
 WC.imp k (fun v h ⟨d,e⟩=>by rw[qug e];exact⟨1,rfl⟩)
def nls (l:List UInt8):Nat:=l.count 10
theorem jg3 (a b:List UInt8):nls (a++b)=nls a+nls b:=List.count_append ..
theorem qcv:∀ (f n:Nat) (acc:List UInt8),nls (dig f n acc)=nls acc
 | 0,n,acc=>rfl
 | f+1,n,acc=>by
  show nls (oif (Nat.ble n 9) (UInt8.ofNat (48+n)::acc) (dig f (n / 10) (UInt8.ofNat (48+n % 10)::acc)))=_
  have key:∀ d,d<=9->nls (UInt8.ofNat (48+d)::acc)=nls acc:=fun d hd=>by
   unfold nls
   rw[List.count_cons_of_ne]
   intro e
   have:=congrArg UInt8.toNat e
   simp at this
   omega
  rw[jat]
  split
  .rename_i h
   exact key n (f0l h)
  .rw [qcv f];exact key _ oa
theorem jjk (n:Nat):nls (ito n)=0:=qcv 19 n []
theorem jg4 {α:Type} {f:α->List UInt8} {g:α->Nat} (hf:∀ a,nls (f a)=g a):∀ l:List α,nls ((l.map f).flatten)=(l.map g).sum
 | []=>rfl
 | a::l=>by rw[f0u,f0t,jg3,hf,jg4 hf l,f0u,f2m]
theorem jnz {α:Type}:∀ l:List α,(l.map (fun _=>0)).sum=0
 | []=>rfl
 | a::l=>by rw[f0u,f2m,jnz l]
theorem jzz {α:Type}:∀ l:List α,(l.map (fun _=>1)).sum=l.length
 | []=>rfl
 | a::l=>by rw[f0u,f2m,jzz l,f0i];omega
theorem jz0 (l:List Nat):nls (ji1 l)=0:=by
 unfold ji1
 rw[jg4 (g:=fun _=>0) (fun n=>by
  show nls ([32]++ito n)=0
  rw[jg3,jjk];rfl),jnz]
theorem quh (k:Nat):nls (kw k)=0:=by unfold kw;split<;>rfl
theorem qui (k:Nat):nls (lw k)=0:=by unfold lw;split<;>rfl
theorem qph (o:Ms.Opd):nls (jzp o)=0:=by
 unfold jzp jxf
 simp only[jg3,quh,qui,jjk]
 split<;>split<;>first | rfl | (simp only[jg3,jjk];rfl)
theorem qpi (r:Nat×Nat):nls (j51 r)=0:=by
 unfold j51
 simp only[jg3,jjk];rfl
theorem qpj (x:Ms.Ins):nls (j2n x)=1:=by
 unfold j2n
 simp only[jg3,jjk]
 rw[jg4 (g:=fun _=>0) qph,jg4 (g:=fun _=>0) qpi,jnz,jnz];rfl
theorem qpk (e:Ms.Edg):nls (j56 e)=1:=by
 unfold j56
 simp only[jg3,jjk,jz0];rfl
theorem qpl (b:Ms.Blk):nls (jzq b)=1+b.instrs.length+b.edges.length:=by
 unfold jzq
 simp only[jg3,jz0]
 rw[jg4 (g:=fun _=>1) qpj,jg4 (g:=fun _=>1) qpk,jzz,jzz]
 show 0+0+1+_+_=_
 omega
theorem qcw (s:Scr):nls (jqx s)=3+(s.f.blocks.map (fun b=>1+b.instrs.length+b.edges.length)).sum:=by
 unfold jqx
 simp only[jg3,jz0,jjk]
 rw[jg4 (g:=fun b=>1+b.instrs.length+b.edges.length) qpl]
 rfl
section
variable {F:Fns} {dst:Option Nat} {l:List IOper} {st fr:List AV} {h:Hp} {Q:Ex->St->Prop}
theorem qhb {k:Nat} {x y:Od}:WO F (.mk dst (.a (.strop k x y)) none::l) st fr h Q=zmO F (jd8 st fr h (.strop k x y)) dst l st fr Q:=jg6 rfl
def quj (h:Hp) (x:Option AV):R:=ob x (fun v=>ob (qhg v) (fun l=>ok (.s (.str l)) h))
theorem qcx {x y:Od}:jd8 st fr h (.strop 0 x y)=quj h (ev st fr x):=rfl
def quk (h:Hp) (x y:Option AV):R:=ob x (fun a=>ob y (fun b=>svc none a (fun a=>svc none b (fun b=>jk6 a (fun l=>jk6 b (fun r=>ok (.s (.bool (j3z l r))) h))))))
theorem qcy {x y:Od}:jd8 st fr h (.strop 1 x y)=quk h (ev st fr x) (ev st fr y):=rfl
theorem qpm {v:AV} {b:List UInt8} (e:qhg v=some b):quj h (some v)=some (.s (.str b),h):=by
 show ob (qhg v) _=_
 rw[e];rfl
theorem qpn {b:List UInt8}:quk h (some (.s (.str b))) (some (.s (.str b)))=some (vb true,h):=by
 show some (AV.s (.bool (j3z b b)),h)=_
 rw[jli,beq_self_eq_true]
end
theorem qcz:∀ l:List Nat,∃ b,j55 (l.map (fun n:Nat=>SV.int .u8 n))=some b
 | []=>⟨[],rfl⟩
 | a::l=>by
  obtain⟨b,e⟩:=qcz l
  refine⟨UInt8.ofNat (Int.toNat a)::b,?_⟩
  show ob (j55 (l.map (fun n:Nat=>SV.int .u8 n))) (fun l=>some (UInt8.ofNat (Int.toNat a)::l))=_
  rw[e];rfl
theorem qul (l:List Nat):∃ b,qhg (.s (jaf qp3 l))=some b:=by
 cases l with
 | nil=>exact⟨[],rfl⟩
 | cons a l =>
  obtain⟨b,e⟩:=qcz (a::l)
  refine⟨b,?_⟩
  show ob (jx2 1 ((a::l).map qp3)) j55=_
  have fl:jx2 1 ((a::l).map qp3)=some ((a::l).map (fun n:Nat=>SV.int .u8 n)):=by
   rw[jww (fun r hr=>by obtain⟨n,_,rfl⟩:=f1j.1 hr;rfl)]
   congr 1
   generalize a::l=q
   induction q with
   | nil=>rfl
   | cons b q ih=>rw[f0u,f0t,ih];rfl
  rw[fl]
  exact e
theorem qum {F:Fns} {l:List Nat} (hl:l.length<=100000) {h:Hp} {Q:Ex->St->Prop} (hQ:∀ x3 x4,Q (.exit 0) (.mk [.s (jaf jav l),.s (jaf jav l),x2,x3,x4,vi l.length,x6] h)) :
 ∀ (d i:Nat) (_:i+d=l.length) (_:Ok h) {x3 x4:AV},W F juv.loop (.mk [.s (jaf jav l),.s (jaf jav l),x2,x3,x4,vi i,x6] h) Q
 | 0,i,hd,ok,x3,x4=>by
  obtain rfl:i=l.length:=oa
  have ll:=jah (enc:=jav) (l:=l)
  rw[jai]
  unfold juv
  simp(disch:=go_num) only[go_sem,ll,f0s]
  exact hQ _ _
 | d+1,i,hd,ok,x3,x4=>by
  have hlt:(i:Int)<(l.length:Int):=oa
  have ll:=jah (enc:=jav) (l:=l)
  obtain⟨n,hn⟩:∃ n,l[i]?=some n:=⟨_,f0b oa⟩
  have hix:=jaj (enc:=jav) (size:=1) hn rfl
  have hs:(i:Int)+1=((i+1:Nat):Int):=oa
  rw[jai]
  unfold juv qct
  simp(disch:=go_num) only[go_sem,jad,ll,eq_true hlt,hix,jav,ne_eq,hs]
  exact qum hl hQ d (i+1) oa ok
theorem qun {F:Fns} {k:Bool} {h:Hp} (ok:Ok h) {l:List Nat} (hl:l.length<=100000) (hX:jc1 F 22 [.s (jaf jav l),.s (jaf jav l)] h=none) (hT:j4i F 22=T 22) :
 WC F 22 [.s (jaf jav l),.s (jaf jav l)] h (fun v h'=>∃ d,jf9 k h' d v=some (vb true)):=by
 refine jaz hX (hT.trans q0s) rfl ?_
 unfold qkb
 have ll:=jah (enc:=jav) (l:=l)
 simp(disch:=go_num) only[go_sem,ll,ne_eq]
 unfold qcu
 simp(disch:=go_num) only[go_sem]
 refine qum hl (fun x3 x4=>?_) l.length 0 oa ok
 simp(disch:=go_num) only[go_sem]
 exact⟨1,rfl⟩
theorem jqg {α:Type} {B:α->List Nat} {c:α->Nat}:∀ {l:List α},(∀ a∈l,(B a).length<=c a)->(l.map B).flatten.length<=(l.map c).sum
 | [],_=>f0h _
 | a::l,h=>by
  rw[f0u,f0t,f0d,f0u,f2m]
  exact Nat.add_le_add (h a se) (jqg (fun b hb=>h b (by simp[hb])))
theorem jk2 {α:Type} (n:Nat):∀ l:List α,(l.map (fun _=>n)).sum=n*l.length
 | []=>rfl
 | a::l=>by rw[f0u,f2m,jk2 n l,f0i,Nat.mul_succ,Nat.add_comm]
theorem qpo (q:List Ms.Opd):((q.map qc7).flatten).length=3*q.length:=by
 induction q with
 | nil=>rfl
 | cons a q ih=>rw[f0u,f0t,f0d,ih];show 3+_=3*(q.length+1);omega
theorem qhc {m:Nat×Nat} {f:Fc} (k:FcOk m f) (sd st:Nat) {j:List Nat} (hj:j.length<=64):(j2l ⟨m.1,m.2,sd,st,j,f⟩).length<20000:=by
 have hb:∀ b∈f.blocks,(qbp b).length<=41*b.instrs.length+29:=fun b hb=>by
  obtain⟨h1,h2,h3⟩:=k.blk b hb
  have i1:(b.instrs.map jl5).flatten.length<=41*b.instrs.length:=by
   rw[←jk2]
   refine jqg (fun x hx=>?_)
   have i:=k.ins b hb x hx
   have:=i.nops
   have:=i.nsp
   unfold jl5
   simp only[f0d,f0i,f00,f03,qpo]
   omega
  have i2:(b.edges.map jxe).flatten.length<=7*b.edges.length:=by
   rw[←jk2]
   refine jqg (fun e he=>?_)
   obtain⟨_,h4,t,h5,h6,_⟩:=k.edg b hb e he
   have h8:=congrArg List.length h6
   simp only[f03] at h8
   have h9:=(k.blk t (f0c h5)).1
   show(e.block::e.args.length::e.args).length<=7
   simp only[f0i]
   omega
  unfold qbp jxd
  simp only[f0d,f0i]
  omega
 have h1:(f.blocks.map qbp).flatten.length<=(f.blocks.map (fun b=>41*b.instrs.length+29)).sum:=jqg hb
 have h2:(f.blocks.map (fun b=>41*b.instrs.length+29)).sum=41*sm f.blocks+29*f.blocks.length:=by
  unfold sm
  generalize f.blocks=q
  induction q with
  | nil=>rfl
  | cons a q ih=>simp only[f0u,f2m,f0i,ih];omega
 have h6:(j.map jdp).flatten.length<=4*j.length:=by
  rw[←jk2]
  exact jqg (fun n _=>f0h 4)
 have h3:=k.all
 have h4:=k.nb
 have h5:=k.nv
 unfold j2l jxd
 simp only[f0d,f0i,f00]
 unfold jdp at h6 ⊢
 simp only[f0i,f00]
 omega
theorem q0u {g:FuncId} (h:Wf g=true) {h0:Hp}:jc1 FT1 g vs h0=none:=by
 unfold Wf at h
 simp only[f2b] at h
 rcases h with h | h | h | h | h<;>(have e:=f0k h;subst e;exact(qg9 rfl rfl rfl).trans (qgp rfl rfl rfl rfl rfl rfl rfl rfl rfl rfl rfl))
theorem wrT:WrF FT1:=⟨fun g hg vs h=>q0u hg,rfl⟩
def SKe (f:FuncId):Bool:=Nat.beq f 21
def FQ1:Fns:=PX SKe FT1
def SKs (f:FuncId):Bool:=Nat.beq f 6
def FQ2:Fns:=PX SKs FQ1
def SKi (f:FuncId):Bool:=Nat.beq f 22
def FQ3:Fns:=PX SKi FQ2
def FQ4:Fns:=FR FQ3
def SKr (f:FuncId):Bool:=Nat.beq f 7
def FQ5:Fns:=PX SKr FQ4
theorem q0v {A:Nat->Int}:Env Tryz.prog A tys FQ5:=jer (j0z (j0z (j0z (jer (jer (jer q5c))) j06 (quy qov)) j06 (quy qow)) j06 (quy qox))
section
variable {h:Hp} {m:Nat×Nat} {f:Fc} {s:List Bool} {Q:AV->Hp->Prop}
theorem qp4 {g:FuncId} (h1:SKi g=false) (h2:SKs g=false) (h3:SKe g=false):jc1 FQ3 g vs h=jc1 FT1 g vs h:=(ja0 h1).trans ((ja0 h2).trans (ja0 h3))
theorem qp5 {g:FuncId} (h0:SKr g=false) (h1:Nat.beq g qc8.f=false) (h2:Nat.beq g qu8.f=false) (h3:Nat.beq g qoz.f=false):jc1 FQ5 g vs h=jc1 FQ3 g vs h:=(ja0 h0).trans ((jg7 h1).trans ((jg7 h2).trans (jg7 h3)))
theorem tkQ:TkF FQ3:=⟨fun g hg vs h=>by
 unfold Tf at hg
 simp only[f2b] at hg
 rcases hg with h | h | h | h | h<;>(have e:=f0k h;subst e;exact(qp4 rfl rfl rfl).trans ((qg9 rfl rfl rfl).trans (qgp rfl rfl rfl rfl rfl rfl rfl rfl rfl rfl rfl))),rfl,fun g vs h r hr=>by
 have ne:∀ f,Lf f=false->Nat.beq g f=false:=fun f hf=>by
  cases e:Nat.beq g f with
  | false=>rfl
  | true =>
   have:=f0k e
   subst this
   rw[jl9 hf] at hr
   cases hr
 exact(qp4 (ne 22 rfl) (ne 6 rfl) (ne 21 rfl)).trans ((ja0 (S:=SSh) (F:=FT0) (ne 5 rfl)).trans (jxu (F:=FK1) hr))⟩
theorem qkd {l:List Nat} (hl:l.length<=100000):WC FQ5 22 [.s (jaf jav l),.s (jaf jav l)] h Q=Q (vb true) h :=
 jam ((qp5 rfl rfl rfl rfl).trans (jbg rfl (by simp only[jaw,ja5,jbi,jdu,ja7,jbj,jbd,jbt,jbu,jbl,if_true]) (qun jdv hl ((ja0 rfl).trans ((ja0 rfl).trans ((qg9 rfl rfl rfl).trans (qgp rfl rfl rfl rfl rfl rfl rfl rfl rfl rfl rfl)))) rfl)))
theorem ScG.oks {x:Scr} (k:ScG f m s x):OkS x:=by
 obtain⟨o,m1,m2,e1,e2,ef,sd,st,j1,j2⟩:=k
 obtain⟨a,b,c,d,e,g⟩:=x
 simp only at e1 e2 ef sd st j1 j2
 subst e1 e2 ef
 exact qtj o.k m1 m2 oa oa oa (fun n hn=>by have:=j2 n hn;omega)
theorem ScG.lenB {x:Scr} (k:ScG f m s x):(j2l x).length<20000:=by
 obtain⟨o,m1,m2,e1,e2,ef,sd,st,j1,j2⟩:=k
 obtain⟨a,b,c,d,e,g⟩:=x
 simp only at e1 e2 ef j1
 subst e1 e2 ef
 exact qhc o.k _ _ j1
theorem ScG.chk {x:Scr} (k:ScG f m s x):ji7 true F11 10 [.agg (jec x)] (vi 0) :=
 qcs (fun vs h=>qgp rfl rfl rfl rfl rfl rfl rfl rfl rfl rfl rfl) rfl jdv (s:=x) (LstE.enc (fun _=>rfl)) (fun h Q=>by rw[k.ef,k.e1,k.e2];exact j2c k.o k.m1 k.m2) k.sd k.st k.j1 k.j2
theorem ScG.enc {x:Scr} (k:ScG f m s x):WC FQ5 21 [.agg (jec x)] h Q=Q (qu9 (j2l x)) h:=by
 have e:=(qpe (kk:=true) wrT jdv (LstE.enc (fun _=>rfl)) k.oks (Nat.le_of_lt k.lenB) (fun h Q=>jam ((ja0 rfl).trans ((jh0 (jl9 rfl)).trans (jbg rfl (show ji5 [.agg (jec x)]=true by unfold jec;simp only[jaw,ja5,jbi,jdu,ja7,jbj,jbd,jbt,jbu,jbl,if_true]) k.chk)))))
 rw[qcr (qti k.oks)] at e
 exact jam ((qp5 rfl rfl rfl rfl).trans ((ja0 rfl).trans ((ja0 rfl).trans (jbg rfl (by unfold jec;simp only[jaw,ja5,jbi,jdu,ja7,jbj,jbd,jbt,jbu,jbl,if_true]) e))))
theorem ScG.shw {x:Scr} (k:ScG f m s x):WC FQ5 5 [.agg (jec x)] h Q=Q (q1j x) h :=
 jam ((qp5 rfl rfl rfl rfl).trans ((qp4 rfl rfl rfl).trans (jbg rfl (by unfold jec;simp only[jaw,ja5,jbi,jdu,ja7,jbj,jbd,jbt,jbu,jbl,if_true]) (qot blT jdv k.tks (fun h Q=>qpb k) (fun h'=>⟨2,rfl⟩)))))
theorem ScG.rdr {x:Scr} (k:ScG f m s x):WC FQ5 7 [.s (.str (jqx x))] h Q=Q (rdA x) h:=by
 have ch:=k.chain tkQ
 have hlen:=k.len
 have hll:=qha x
 have htx:=qb0 x
 have kc:=k.o.k
 have hb1:1<=x.f.blocks.length:=by rw[k.ef];exact kc.nb.1
 have hcl:(j58 x).length<=90000:=by
  have:=qcw x
  have:(j58 x).length<=(jqx x).length:=by rw[hll,←this];exact List.count_le_length
  omega
 have e:=qt1 (kk:=true) (h:=h0) tkQ ch jdv (by rw[htx];omega) (by rw[hll];omega) hcl (fun e=>by rw[e] at hb1;exact absurd hb1 se) (fun h vs Q h1 h2=>jam ((jg7 rfl).trans ((jg7 rfl).trans ((jg7 rfl).trans ((qp4 rfl rfl rfl).trans ((ja0 rfl).trans ((jh0 (jl9 rfl)).trans (qla rfl h1 ⟨_,4,h2,ji7.scal k.chk⟩))))))))
 rw[htx] at e
 exact jam (jbg rfl rfl e)
theorem qpp {x:Scr} (k:ScG f m s x) (ok:Ok h):WC FQ5 9 [.agg (jec x),.agg (jec x)] h (fun v h'=>v=vb true/\Ok h'):=by
 refine jaz ((qp5 rfl rfl rfl rfl).trans ((qp4 rfl rfl rfl).trans ((qg9 rfl rfl rfl).trans (qgp rfl rfl rfl rfl rfl rfl rfl rfl rfl rfl rfl)))) q0t rfl ?_
 unfold qkc
 obtain⟨hA,eA,okA,nA,xA,gA⟩:=jdw ok (jec x) 34
 obtain⟨hB,eB,okB,nB,xB,gB⟩:=jdw okA (jec x) 34
 have yA:=(gB _ oa).trans xA
 have wE:=fun(h:Hp) (Q:AV->Hp->Prop)=>k.enc (h:=h) (Q:=Q)
 obtain⟨b,hb⟩:=qul (j2l x)
 have lB:=jah (enc:=qp3) (l:=j2l x)
 have c1:((j2l x).length:Int)>0:=by
  have:0<(j2l x).length:=Nat.succ_pos _
  omega
 have lb:=jah (enc:=ja6) (l:=x.f.blocks)
 have s1:=fun(h:Hp) (Q:AV->Hp->Prop)=>qkd (h:=h) (Q:=Q) (l:=x.junk) (by have:=k.j1;omega)
 have s2:=fun(h:Hp) (Q:AV->Hp->Prop)=>qkd (h:=h) (Q:=Q) (l:=x.f.values) (by have:=k.oks.nv;omega)
 rw[nA] at xB
 unfold jec at eA eB xB yA wE ⊢
 simp(disch:=go_num) only[go_sem,eA,nA,eB,yA,xB,wE,qu9,qhb,qcx,qcy,qpm hb,qpn,lB,eq_true c1,s1,s2,lb,jpu,qs5,and_self,decide_true]
 exact okB
end
theorem qpq {h:Hp} (ok:Ok h) {a b:Int} {l:List Pc} (ha:In6 a) (hb:In6 b) (pin:∀ q∈l,Pin q) {xl:SV} (lx:LstE jb8 7 xl l) (i4:In6 seed) (i5:In6 steps) (hw:∀ n∈w,In6 n) (lw:LstE jhf 1 xw w) :
 WC FQ5 4 [vi a,vi b,.s xl,vi seed,vi steps,.s xw] h (fun v _=>v=.s (.bool true)):=by
 refine jaz ((qp5 rfl rfl rfl rfl).trans ((qp4 rfl rfl rfl).trans ((qg9 rfl rfl rfl).trans (qgp rfl rfl rfl rfl rfl rfl rfl rfl rfl rfl rfl)))) qtr rfl ?_
 unfold qb5
 obtain⟨m1,m2⟩:=qm7 a b
 obtain⟨s,o,_,_⟩:=qol m1 m2 l
 obtain⟨m,em⟩:∃ m,js7 a b=m:=⟨_,rfl⟩
 obtain⟨x,ex⟩:∃ x:Scr,(⟨m.1,m.2,pk seed 1073741824,pk steps 400,jkS w,jev m l⟩:Scr)=x:=⟨_,rfl⟩
 have p1:=jew (n:=seed) (m:=1073741824) oa
 have p2:=jew (n:=steps) (m:=400) oa
 rw[em] at m1 m2 o
 have k:ScG (jev m l) m s x:=by
  subst ex
  exact⟨o,m1,m2,rfl,rfl,rfl,Nat.le_of_lt p1,show pk steps 400<=5000 by omega,qpf w,fun n hn=>Nat.le_of_lt (quf w n hn)⟩
 have wS:∀ h Q,WC FQ5 6 [vi a,vi b,.s xl,vi seed,vi steps,.s xw] h Q=Q (.agg (jec x)) h:=fun h Q=>by
  have e:=qpg (F:=FQ1) (fun vs h=>(ja0 rfl).trans ((qg9 rfl rfl rfl).trans (qgp rfl rfl rfl rfl rfl rfl rfl rfl rfl rfl rfl))) rfl jdv (xl:=xl) (m:=m) (f:=jev m l) hw lw
   (fun h Q=>by rw[←em];exact jam ((ja0 rfl).trans ((qg9 rfl rfl rfl).trans ((ja0 rfl).trans ((qom rfl rfl).trans ((ja0 rfl).trans ((qz6 rfl rfl rfl rfl).trans (j5s ha hb))))))))
   (fun h Q=>jam ((ja0 rfl).trans ((qg9 rfl rfl rfl).trans ((ja0 rfl).trans ((qom rfl rfl).trans ((ja0 rfl).trans ((qz6 rfl rfl rfl rfl).trans (qm8 m1 m2 pin lx))))))))
   (fun h n k Q hn h1 h2=>jam ((ja0 rfl).trans ((qg9 rfl rfl rfl).trans ((ja0 rfl).trans ((qom rfl rfl).trans ((ja0 rfl).trans ((qz6 rfl rfl rfl rfl).trans ((ja0 rfl).trans ((jhw.pk _ _).trans (jv7 hn.1 hn.2 h1 h2)))))))))) i4 i5
  rw[ex] at e
  exact jam ((qp5 rfl rfl rfl rfl).trans ((ja0 rfl).trans (jbg rfl (by
   show oif true (oif true (oif (grd xl) (oif true (oif true (oif (grd xw) true false) false) false) false) false) false=true
   rw[lx.grd,lw.grd];rfl) e)))
 have wSh:=fun(h:Hp) (Q:AV->Hp->Prop)=>k.shw (h:=h) (Q:=Q)
 have wR:=fun(h:Hp) (Q:AV->Hp->Prop)=>k.rdr (h:=h) (Q:=Q)
 have wE:=fun(h:Hp) (ok:Ok h)=>qpp k ok
 obtain⟨hA,eA,okA,nA,xA,gA⟩:=jby ok Ze (jec x) 34
 obtain⟨hC,eC,okC,nC,xC,gC⟩:=jby okA Ze (jec x) 34
 have yA:=(gC _ oa).trans xA
 have hlen:=k.len
 have hln:=jzn (l:=jqx x) oa
 have hl1:((jqx x).length:Int)>0:=by
  have h1:=qcw x
  have h2:nls (jqx x)<=(jqx x).length:=List.count_le_length
  omega
 unfold q1j at wSh
 unfold rdA at wR
 unfold jec at eA eC xA xC yA wS wSh wR wE
 simp(disch:=go_num) only[go_sem,jce,jcf,jcg,ja1,jap,jch,ja2,wS,eA,xA,wSh,wR,eC,hln,eq_true hl1,xC,yA]
 refine WC.imp (wE _ okC) ?_
 rintro _ h2 ⟨rfl,ok2⟩
 simp(disch:=go_num) only[go_sem]
end
end Go.Proofs.YtkpadfebkaangaaGreatDoor.Ev
