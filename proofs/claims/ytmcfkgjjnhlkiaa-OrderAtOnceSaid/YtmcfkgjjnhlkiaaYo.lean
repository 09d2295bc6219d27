/- Shifts: moves of raw numbers, no two to one place. -/
import Derived.Test.YtmcfkgjjnhlkiaaYk
namespace Go.Proofs.Ytmcfkgjjnhlkiaa.Ev
open Go Go.RowKit Go.Proofs.Ytmcfkgjjnhlkiaa.Ms
attribute [local go_sem] Int.reduceToNat reduceCtorEq Nat.reduceAdd Nat.reduceMul Nat.reduceEqDiff Int.reduceEq Int.reduceLT Int.reduceLE Int.reduceNeg Int.reduceAdd Int.reduceSub Int.reduceMul Int.reduceNe
attribute [local go_sem ↓] reduceIte
set_option linter.all false
set_option maxRecDepth 100000
set_option maxHeartbeats 4000000
theorem jsu {F:Fns} {st fr:List AV} {es:List Ent} {h:Hp} {dst:Option Nat} {l:List (IOper×Option (List Nat))} {Q:Ex->St->Prop} {e:TypeId} {z:List SV} {js:List Nat} {hd:List (Nat×Nat)} (k:Ok h) (hs:sel es js []=some hd) (hh:jac hd h.next=false) :
 WD F ((.mk dst (.a (.new e z)) none,some js)::l) st es fr h Q=WD F l (.s (.ptr h.next 0)::st) (.mk [(h.next,Nat.succ h.next)] (some [])::es) (jbc fr dst (.s (.ptr h.next 0))) (h.push (.arr z e)) Q:=by
 rw[jrd (x:=some (DR.mk (.s (.ptr h.next 0)) (h.push (.arr z e)) (.mk [(h.next,Nat.succ h.next)] (some [])))) (fun cl=>?_)]
 .exact jay
 .cases h with
  | mk n1 t lo hid =>
  obtain rfl:hid=[]:=k.hid
  obtain rfl:lo=0:=k.lo
  have hh':jac hd n1=false:=hh
  have hi:iop cl st fr (.mk n1 t n1 hd) (.a (.new e z))=some (.s (.ptr n1 0),.mk (Nat.succ n1) (t.put (Nat.succ n1) n1 (some (.arr z e))) n1 hd):=by
   show oif (jac hd n1) none (some (AV.s (.ptr n1 0),Hp.mk (Nat.succ n1) (t.put (Nat.succ n1) n1 (some (.arr z e))) n1 hd))=_
   rw[hh'];rfl
  show ob (sel es js []) (fun hid'=>jh1 cl st fr n1 t 0 n1 [] hid' (.a (.new e z)) (fun n'=>.mk [(n1,n')] (some [])))=_
  rw[hs]
  show ob (iop cl st fr (.mk n1 t n1 hd) (.a (.new e z))) _=_
  rw[hi]
  rfl
structure Sf where
 fr:Int
 to:Int
 cl:Int
def jld (s:Sf):List SV:=[si s.fr,si s.to,si s.cl]
structure SfIn (s:Sf):Prop where
 a:In6 s.fr
 b:In6 s.to
 c:In6 s.cl
def j4g (m:Nat×Nat) (fr:Nat) (s:Sf):Mo:=⟨je3 m s.fr (pk s.cl 2) fr,je3 m s.to (pk s.cl 2) fr⟩
def jdc (m:Nat×Nat) (fr:Nat) (acc:List (Mo×Nat)) (s:Sf):List (Mo×Nat):=if acc.any (fun z=>decide (z.1.to=(j4g m fr s).to))=true then acc else acc++[(j4g m fr s,pk s.cl 2)]
theorem j58 {m:Nat×Nat} {fr:Nat} (m1:2<=m.1/\m.1<=10) (m2:2<=m.2/\m.2<=10) (hf:fr<=100):∀ (l:List Sf) (acc:List (Mo×Nat)),acc.length+l.length<=100->ZOk m fr acc->ZOk m fr (l.foldl (jdc m fr) acc)/\(l.foldl (jdc m fr) acc).length<=acc.length+l.length
 | [],acc,h,k=>⟨k,f0b _⟩
 | s::l,acc,h,k=>by
  simp only[f0u] at h ⊢
  have hc:=@jo2 s.cl 2 (by omega)
  have key:ZOk m fr (jdc m fr acc s)/\(jdc m fr acc s).length<=acc.length+1:=by
   unfold jdc
   split
   .exact ⟨k,by omega⟩
   .rename_i hn
    obtain⟨e1,e2⟩:=@jqa m m1 m2 s.fr (pk s.cl 2) fr hc
    obtain⟨e3,e4⟩:=@jqa m m1 m2 s.to (pk s.cl 2) fr hc
    refine⟨⟨m1,m2,hf,by simp;omega,fun z hz=>?_,?_⟩,by simp⟩
    .rcases f1t.1 hz with hz | hz
     .exact k.e z hz
     .rw [f13] at hz
      subst hz
      exact⟨hc,e1,e3,e2,e4⟩
    .rw [f1h,List.nodup_append]
     refine⟨k.nd,by simp,fun a ha b hb=>?_⟩
     rw[List.map_singleton,f13] at hb
     subst hb
     rintro rfl
     obtain⟨z,hz,e⟩:=f0o.1 ha
     exact hn (List.any_eq_true.2 ⟨z,hz,by simpa using e⟩)
  obtain⟨r1,r2⟩:=j58 m1 m2 hf l (jdc m fr acc s) (by omega) key.1
  exact⟨r1,by rw[List.foldl_cons];omega⟩
theorem j0m {L:List Mo} {ov:SV} {b1 qx:Nat} {x:Mo} {x0 x1 x2 x3 x4 x5 x6 x14 x15 x16 x17 x18:AV} {Q:Ex->St->Prop} :
 ∀ (d j:Nat) (_:j+d=L.length) {h:Hp} (_:Ok h) (_:OL 39 6 jad h ov L b1) (_:qx<h.next) (_:h.get qx=some (.arr (jad x) 39)) (_:L.length<=1000) {t:Bool} {x8 x11:AV}
  (hQ:∀ h' x8 x11,Grw h h'->Q (.exit 2) (.mk [x0,x1,x2,x3,x4,x5,x6,.s (.ptr qx 0),x8,vb (t||(L.drop j).any (fun y=>decide (y.to=x.to))),.s ov,x11,vi L.length,vi L.length,x14,x15,x16,x17,x18] h')),
  W G2 jne.loop (.mk [x0,x1,x2,x3,x4,x5,x6,.s (.ptr qx 0),x8,vb t,.s ov,x11,vi L.length,vi j,x14,x15,x16,x17,x18] h) Q
 | 0,j,hd,h,ok,ol,lq,xq,hL,t,x8,x11,hQ=>by
  obtain rfl:j=L.length:=by omega
  rw[jbg]
  unfold jne
  rw[List.drop_length,List.any_nil,Bool.or_false] at hQ
  simp(disch:=first|omega|rfl) only[go_sem,f1r]
  exact hQ h _ _ ⟨ok,f0b _,fun _ _=>rfl⟩
 | d+1,j,hd,h,ok,ol,lq,xq,hL,t,x8,x11,hQ=>by
  have hil:j<L.length:=by omega
  have hlt:(j:Int)<(L.length:Int):=by omega
  have hs:(j:Int)+1=((j+1:Nat):Int):=by omega
  obtain⟨y,hu⟩:∃ u,L[j]?=some u:=⟨_,f0g hil⟩
  have ix:=ol.toX.ix hu
  have rr:=ol.toX.at hu
  obtain⟨hA,eA,okA,nA,xA,gA⟩:=jsq ok [.int .i64 0,.int .i64 0,.int .i64 0,.int .i64 0,.int .i64 0,.int .i64 0] (jad y) 39
  have G:Grw h hA:=⟨okA,by omega,gA⟩
  have yq:=(gA _ lq).trans xq
  have olA:=ol.keep (h1:=hA) (by omega) (fun _ h2=>gA _ h2)
  have ed:L.drop j=y::L.drop (j+1):=by
   rw[f0v hil,(f0e.1 hu).2]
  rw[ed,List.any_cons] at hQ
  have yq':=yq
  unfold jad at rr eA xA yq'
  rw[jbg]
  unfold jne jxa
  cases t with
  | true =>
   simp(disch:=first|omega|rfl) only[go_sem,jak,eq_true hlt,ix,rr,eA,xA,yq',hs]
   refine j0m d (j+1) (by omega) okA olA (by omega) yq hL (t:=true) (fun h' x8 x11 g=>?_)
   have:=hQ h' x8 x11 (G.trans g)
   rw[Bool.true_or] at this ⊢
   exact this
  | false =>
   by_cases he:y.to.k=x.to.k/\y.to.c=x.to.c/\y.to.n=x.to.n
   .simp (disch:=first|omega|rfl) only[go_sem,jak,eq_true hlt,ix,rr,eA,xA,yq',jgo,j0h,eq_true he,hs]
    refine j0m d (j+1) (by omega) okA olA (by omega) yq hL (t:=true) (fun h' x8 x11 g=>?_)
    have:=hQ h' x8 x11 (G.trans g)
    rw[decide_eq_true (Pl.eq_iff.2 he),Bool.true_or,Bool.or_true] at this
    rw[Bool.true_or]
    exact this
   .simp (disch:=first|omega|rfl) only[go_sem,jak,eq_true hlt,ix,rr,eA,xA,yq',jgo,j0h,eq_false he,hs]
    refine j0m d (j+1) (by omega) okA olA (by omega) yq hL (t:=false) (fun h' x8 x11 g=>?_)
    have:=hQ h' x8 x11 (G.trans g)
    rw[decide_eq_false (fun h=>he (Pl.eq_iff.1 h)),Bool.false_or] at this
    exact this
theorem jix (n:Nat):(jqo n).length=1:=rfl
theorem j35 {m:Nat×Nat} (m1:2<=m.1/\m.1<=10) (m2:2<=m.2/\m.2<=10) {fr:Nat} (hf:fr<=100) {l:List Sf} (lin:∀ s∈l,SfIn s) {X:SV} (lX:LsE jld 3 X l) {qm n0:Nat} (lq:qm<n0) (hq1:1<=qm) {x0 x3 x4:AV} {Q:Ex->St->Prop} :
 ∀ (d i:Nat) (_:i+d=min l.length 30) {h:Hp} {ov cv:SV} {b1 b2:Nat} (_:Ok h) (_:n0<=h.next) (_:h.get qm=some (.arr [si m.1,si m.2] 25))
  {acc:List (Mo×Nat)} (_:acc=(l.take i).foldl (jdc m fr) []) (_:acc.length<=i) (_:OL 39 6 jad h ov (acc.map (·.1)) b1) (_:OL 3 1 jqo h cv (acc.map (·.2)) b2) (_:b1=0∨n0<=b1) (_:b2=0∨n0<=b2) (_:b1=0∨b1≠b2) {x6 x7 x8 x9 x10 x11 x12 x13 x15 x17:AV}
  (hQ:∀ h' ov cv b1 b2 x6 x7 x8 x9 x10 x11 x12 x13 x15 x17 x18,Ok h'->OL 39 6 jad h' ov (((l.take 30).foldl (jdc m fr) []).map (·.1)) b1->OL 3 1 jqo h' cv (((l.take 30).foldl (jdc m fr) []).map (·.2)) b2->Q (.exit 0) (.mk [x0,.s X,vi (fr:Int),x3,x4,.s cv,x6,x7,x8,x9,x10,x11,x12,x13,.s ov,x15,.s (.ptr qm 0),x17,x18] h')),
  W G2 jnf.loop (.mk [x0,.s X,vi (fr:Int),x3,x4,.s cv,x6,x7,x8,x9,x10,x11,x12,x13,.s ov,x15,.s (.ptr qm 0),x17,vi i] h) Q
 | 0,i,hd,h,ov,cv,b1,b2,ok,hn,xq,acc,hacc,hal,ol,oc,q1,q2,q3,x6,x7,x8,x9,x10,x11,x12,x13,x15,x17,hQ=>by
  have ll:=lX.len
  have et:l.take i=l.take 30:=by
   rcases Nat.le_total l.length 30 with h | h
   .rw [f0s (by omega),f0s h]
   .have:i=30:=by omega
    rw[this]
  rw[et] at hacc
  subst hacc
  rw[jbg]
  unfold jnf
  by_cases hlt:(i:Int)<(l.length:Int)
  .have h30:((i:Int)<30)=False:=eq_false (by omega)
   simp(disch:=first|omega|rfl) only[go_sem,ll,eq_true hlt,h30]
   exact hQ h ov cv b1 b2 _ _ _ _ _ _ _ _ _ _ _ ok ol oc
  .simp (disch:=first|omega|rfl) only[go_sem,ll,eq_false hlt]
   exact hQ h ov cv b1 b2 _ _ _ _ _ _ _ _ _ _ _ ok ol oc
 | d+1,i,hd,h,ov,cv,b1,b2,ok,hn,xq,acc,hacc,hal,ol,oc,q1,q2,q3,x6,x7,x8,x9,x10,x11,x12,x13,x15,x17,hQ=>by
  have ll:=lX.len
  have hil:i<l.length:=by omega
  have hlt:(i:Int)<(l.length:Int):=by omega
  have h30:((i:Int)<30)=True:=eq_true (by omega)
  have hs:(i:Int)+1=((i+1:Nat):Int):=by omega
  obtain⟨s,hu⟩:∃ u,l[i]?=some u:=⟨_,f0g hil⟩
  have sn:=lin s (f0t hu)
  have ix:=lX.at_ hu
  have hpos:=ok.pos
  have hc:=@jo2 s.cl 2 (by omega)
  have cpk:∀ (Q:AV->Hp->Prop) (h:Hp),WC G2 5 [vi s.cl,vi 2] h Q=Q (vi ((pk s.cl 2:Nat):Int)) h:=fun Q h=>@jts h Q s.cl 2 sn.c (by omega) (by omega)
  obtain⟨c,ec⟩:∃ c,pk s.cl 2=c:=⟨_,rfl⟩
  rw[ec] at cpk hc
  obtain⟨pf,ef⟩:∃ p,je3 m s.fr c fr=p:=⟨_,rfl⟩
  obtain⟨pt,ept⟩:∃ p,je3 m s.to c fr=p:=⟨_,rfl⟩
  have cp1:∀ (Q:AV->Hp->Prop) (h:Hp),WC G2 11 [.agg [si m.1,si m.2],vi s.fr,vi (c:Int),vi (fr:Int)] h Q=Q (.agg [si pf.k,si pf.c,si pf.n]) h:=fun Q h=>by
   rw[jtt m1 m2 sn.a hc hf,ef];rfl
  have cp2:∀ (Q:AV->Hp->Prop) (h:Hp),WC G2 11 [.agg [si m.1,si m.2],vi s.to,vi (c:Int),vi (fr:Int)] h Q=Q (.agg [si pt.k,si pt.c,si pt.n]) h:=fun Q h=>by
   rw[jtt m1 m2 sn.b hc hf,ept];rfl
  have emo:j4g m fr s=⟨pf,pt⟩:=by unfold j4g;rw[ec,ef,ept]
  have hh:(h.next<=qm/\qm<h.next)=False:=eq_false (by omega)
  have lb1:=ol.lt ok
  have lb2:=oc.lt ok
  obtain⟨hA,eA,okA,nA,xA,gA⟩:=jsq ok [.int .i64 0,.int .i64 0,.int .i64 0,.int .i64 0,.int .i64 0,.int .i64 0] (jad ⟨pf,pt⟩) 39
  have olA:=ol.keep (h1:=hA) (by omega) (fun _ h2=>gA _ h2)
  have ocA:=oc.keep (h1:=hA) (by omega) (fun _ h2=>gA _ h2)
  have yq:=(gA qm (by omega)).trans xq
  have lm:=olA.len
  rw[f05] at lm
  have ela:(acc.map (·.1)).length=acc.length:=f05 ..
  have elb:(acc.map (·.2)).length=acc.length:=f05 ..
  have et:(l.take (i+1)).foldl (jdc m fr) []=jdc m fr acc s:=by
   rw[f0z hil,(f0e.1 hu).2,f2f,←hacc];rfl
  have xA':=xA
  unfold jad at eA xA'
  unfold jld at ix
  rw[jbg]
  unfold jnf jxb
  simp(disch:=first|omega|rfl) only[go_sem,jak,ll,eq_true hlt,h30,ix,cpk,cp1,cp2,xq,hh]
  refine Eq.mpr (jsu ok (hd:=[(h.next,h.next),(h.next,h.next)]) rfl (by
   have e:∀ n:Nat,jac [(n,n),(n,n)] n=false:=fun n=>by simp[jac,jag,jmn]
   exact e _)) ?_
  simp(disch:=first|omega|rfl) only[go_sem,eA,lm]
  have e0:vi (acc.length:Int)=vi ((acc.map (·.1)).length:Int):=by rw[ela]
  rw[e0]
  refine j0m (x:=⟨pf,pt⟩) (acc.map (·.1)).length 0 (by omega) okA olA (by omega) xA (by omega) (t:=false) (fun hB x8 x11 gB=>?_)
  have okB:=gB.ok
  have nB:=gB.nx
  have xB:=(gB.g h.next (by omega)).trans xA'
  have zq:=(gB.g qm (by omega)).trans yq
  have olB:=olA.keep (h1:=hB) nB (fun _ h2=>gB.g _ h2)
  have ocB:=ocA.keep (h1:=hB) nB (fun _ h2=>gB.g _ h2)
  have ea:(false||((acc.map (·.1)).drop 0).any (fun y=>decide (y.to=(⟨pf,pt⟩:Mo).to)))=acc.any (fun z=>decide (z.1.to=(j4g m fr s).to)):=by
   rw[Bool.false_or,List.drop_zero,List.any_map,emo];rfl
  rw[ea]
  cases hany:acc.any (fun z=>decide (z.1.to=(j4g m fr s).to)) with
  | true =>
   simp(disch:=first|omega|rfl) only[go_sem,jak,hs]
   refine j35 m1 m2 hf lin lX lq hq1 d (i+1) (by omega) okB (by omega) zq (acc:=acc) ?_ (by omega) olB ocB q1 q2 q3 hQ
   rw[et];unfold jdc;rw[if_pos hany]
  | false =>
   obtain⟨ov',hC,eC,okC,nC,gC,olC⟩:=olB.app jaj okB (cs:=[⟨pf,pt⟩]) (by simp) (bytes:=48) (by simp;omega) (by simp;omega)
   simp only[f01,f2h,f1n,f0u,f03,f0l] at eC
   unfold jad at eC
   have ocC:=ocB.keep (h1:=hC) (by omega) (fun h1 h2=>gC _ h2 (by omega))
   obtain⟨cv',hD,eD,okD,nD,gD,ocD⟩:=ocC.app jix okC (cs:=[c]) (by simp) (bytes:=8) (by simp;omega) (by simp;omega)
   simp only[f01,f2h,f1n,f0u,f03,f0l] at eD
   unfold jqo at eD
   have olD:=olC.keep (h1:=hD) (by omega) (fun h1 h2=>gD _ h2 (by omega))
   simp(disch:=first|omega|rfl) only[go_sem,jak,hs,xB,eC,eD]
   refine j35 m1 m2 hf lin lX lq hq1 d (i+1) (by omega) okD (by omega) ((gD _ (by omega) (by omega)).trans ((gC _ (by omega) (by omega)).trans zq)) (acc:=acc++[(⟨pf,pt⟩,c)]) ?_ (by simp;omega) (by rw[f1h];exact olD) (by rw[f1h];exact ocD) (by omega) (by omega) (by omega) hQ
   rw[et];unfold jdc;rw[if_neg (by rw[hany];simp),emo,ec]
def shS (m:Nat×Nat) (fr:Nat) (l:List Sf):List (Mo×Nat):=(l.take 30).foldl (jdc m fr) []
def shU (Z:List (Mo×Nat)):AV:=.tup [(false,[jij jad (Z.map (·.1))]),(false,[jij jqo (Z.map (·.2))])]
theorem j36 {m:Nat×Nat} (m1:2<=m.1/\m.1<=10) (m2:2<=m.2/\m.2<=10) {fr:Nat} (hf:fr<=100) {l:List Sf} (lin:∀ s∈l,SfIn s) {X:SV} (lX:LsE jld 3 X l) {h:Hp} (ok:Ok h) :
 WC G2 6 [.agg [si m.1,si m.2],.s X,vi fr] h (fun v h'=>∃ d,jo7 true h' d v=some (shU (shS m fr l))):=by
 refine jbz (j6l rfl rfl) j7s rfl ?_
 unfold j1j
 have hp:=ok.pos
 obtain⟨hA,eA,okA,nA,xA,gA⟩:=jqp ok [si m.1,si m.2] 25
 simp(disch:=first|omega|rfl) only[go_sem,eA]
 refine j35 m1 m2 hf lin lX (n0:=h.next+1) (by omega) (by omega) (min l.length 30) 0 (by omega) okA (by omega) xA (acc:=[]) rfl (by simp) (b1:=0) (b2:=0) .nil .nil (.inl rfl) (.inl rfl) (.inl rfl) (fun h' ov cv b1 b2 x6 x7 x8 x9 x10 x11 x12 x13 x15 x17 x18 ok' ol oc=>?_)
 simp(disch:=first|omega|rfl) only[go_sem]
 refine⟨2,?_⟩
 show ob (jv5 (jih true h' 2) [(false,[ov]),(false,[cv])]) (fun y=>some (AV.tup y))=_
 have e1:=ol.frz jaj jt0 (kk:=true)
 have e2:=oc.frz jix j34 (kk:=true)
 have e3:jv5 (jih true h' 2) [(false,[ov]),(false,[cv])]=some [(false,[jij jad ((shS m fr l).map (·.1))]),(false,[jij jqo ((shS m fr l).map (·.2))])]:=jaa.2 ⟨_,jo0 e1,jaa.2 ⟨_,jaa.2 ⟨_,jo0 e2,rfl⟩,rfl⟩⟩
 rw[e3]
 rfl
open Go Go.Proofs.Ytmcfkgjjnhlkiaa.Ms
variable {Q:AV->Hp->Prop} {h:Hp} {X:SV}
def atL (G:List (Nat×Nat)) (c:Nat):Nat:=(jaz G c).getD c
def jci (G:List (Nat×Nat)) (x:Mo):List (Nat×Nat):=jo4 G (jav x.to) (atL G (jav x.fr))
def jfm (l:List Mo):List (Nat×Nat):=l.foldl jci []
def jbw (G:List (Nat×Nat)) (x:Mo):List (Nat×Nat):=jo4 G (jav x.to) (jav x.fr)
def jin (l:List Mo):List (Nat×Nat):=l.foldl jbw []
theorem jt1 {G:List (Nat×Nat)} {k v c:Nat}:atL (jo4 G k v) c=if c=k then v else atL G c:=by
 unfold atL
 rw[jfd]
 split<;>rfl
section
variable {m:Nat×Nat} (m1:2<=m.1/\m.1<=10) (m2:2<=m.2/\m.2<=10) {fr:Nat}
include m1 m2
theorem jy5 (c:Nat):2<=g2 m c/\g2 m c<=10:=by unfold g2;split<;>omega
theorem VP.tell {p:Pl} (h:VP m fr p):(p.k=2/\p.c=0/\jav p=100+p.n/\p.n<=fr)∨(p.k=1/\p.c<2/\p.n<=10/\jav p=20*p.c+p.n):=by
 unfold jav
 rcases h with(⟨h1,h2,h3⟩ | ⟨h1,h2,h3⟩) | ⟨c,hc,rfl⟩
 .exact .inl ⟨h1,h2,by rw[if_pos h1],by omega⟩
 .have:=jy5 m1 m2 p.c
  exact .inr ⟨h1,h2,by omega,by rw[if_neg (by omega)]⟩
 .have:=jy5 m1 m2 c
  exact .inr ⟨rfl,hc,this.2,rfl⟩
theorem VP.inj {p q:Pl} (h:VP m fr p) (h':VP m fr q) (e:jav p=jav q):p=q:=by
 rw[Pl.eq_iff]
 rcases h.tell m1 m2 with⟨a1,a2,a3,a4⟩ | ⟨a1,a2,a3,a4⟩<;>rcases h'.tell m1 m2 with⟨b1,b2,b3,b4⟩ | ⟨b1,b2,b3,b4⟩<;>omega
theorem jqk {out:List Mo} (ho:∀ x∈out,jyz m fr x):∀ (l:List Mo) (_:∀ x∈l,jyz m fr x) (G:List (Nat×Nat)) (σ:Pl->Pl) (_:∀ p,VP m fr p->VP m fr (σ p)/\atL G (jav p)=jav (σ p)) (_:∀ c,(∀ p,VP m fr p->c≠jav p)->atL G c=c),
 (∀ p,VP m fr p->atL (l.foldl jci G) (jav p)=jav (jdi σ l p))/\(∀ c,(∀ p,VP m fr p->c≠jav p)->atL (l.foldl jci G) c=c)
 | [],_,G,σ,h1,h2=>⟨fun p hp=>(h1 p hp).2,h2⟩
 | x::l,hl,G,σ,h1,h2=>by
  obtain⟨hf,ht,_⟩:=hl x (by simp)
  show(∀ p,VP m fr p->atL (l.foldl jci (jci G x)) (jav p)=jav (jdi (j3n σ x) l p))/\_
  refine jqk ho l (fun y hy=>hl y (f0p _ hy)) (jci G x) (j3n σ x) (fun p hp=>?_) (fun c hc=>?_)
  .unfold jci j3n
   rw[jt1]
   by_cases e:p=x.to
   .rw [if_pos e,if_pos (by rw[e]),(h1 _ hf).2]
    exact⟨(h1 _ hf).1,rfl⟩
   .rw [if_neg e,if_neg (fun e'=>e (VP.inj m1 m2 hp ht e'))]
    exact h1 p hp
  .unfold jci
   rw[jt1,if_neg (hc _ ht)]
   exact h2 c hc
theorem jt2:∀ (L:List Mo) (G:List (Nat×Nat)) (_:(L.map (·.to)).Nodup) (_:∀ x∈L,VP m fr x.to) (c:Nat),
 (∀ x∈L,c=jav x.to->jaz (L.foldl jbw G) c=some (jav x.fr))/\((∀ x∈L,c≠jav x.to)->jaz (L.foldl jbw G) c=jaz G c)
 | [],G,_,_,c=>⟨fun x hx=>by simp at hx,fun _=>rfl⟩
 | y::L,G,hn,hv,c=>by
  rw[List.map_cons,List.nodup_cons] at hn
  obtain⟨ih1,ih2⟩:=jt2 L (jbw G y) hn.2 (fun x hx=>hv x (f0p _ hx)) c
  refine⟨fun x hx e=>?_,fun h=>?_⟩
  .rcases f0m.1 hx with rfl | hx
   .show jaz (L.foldl jbw (jbw G x)) c=_
    rw[ih2 (fun z hz e'=>hn.1 (f0o.2 ⟨z,hz,VP.inj m1 m2 (hv z (f0p _ hz)) (hv x (by simp)) (e'.symm.trans e)⟩))]
    unfold jbw
    rw[jfd,if_pos e]
   .exact ih1 x hx e
  .show jaz (L.foldl jbw (jbw G y)) c=_
   rw[ih2 (fun x hx=>h x (f0p _ hx))]
   unfold jbw
   rw[jfd,if_neg (h y (by simp))]
theorem jcc.vp {p:Pl} (h:jcc m p fr):VP m fr p:=.inl h.up
theorem jle {L out:List Mo} (hL:(L.map (·.to)).Nodup) (hE:∀ x∈L,jcc m x.fr fr/\jcc m x.to fr) (k:OrdP m fr L out) {c:Nat} (hc:c<100+fr) (hs:¬(c<40/\c % 20=g2 m (c / 20))):atL (jfm out) c=(jaz (jin L) c).getD c:=by
 have hnil:∀ c,atL [] c=c:=fun c=>rfl
 obtain⟨e1,e2⟩:=jqk m1 m2 k.ok out k.ok [] id (fun p hp=>⟨hp,rfl⟩) (fun c _=>rfl)
 obtain⟨w1,w2⟩:=jt2 m1 m2 (fr:=fr) L [] hL (fun x hx=>(hE x hx).2.vp m1 m2) c
 by_cases h:∃ p,VP m fr p/\c=jav p
 .obtain ⟨p,hp,rfl⟩:=h
  rw[show atL (jfm out) (jav p)=jav (jdi id out p) from e1 p hp]
  by_cases h2:∃ x∈L,x.to=p
  .obtain ⟨x,hx,rfl⟩:=h2
   rw[k.to x hx,show jaz (jin L) (jav x.to)=some (jav x.fr) from w1 x hx rfl]
   rfl
  .rw [show jaz (jin L) (jav p)=jaz [] (jav p) from w2 (fun x hx e=>h2 ⟨x,hx,(VP.inj m1 m2 hp ((hE x hx).2.vp m1 m2) e).symm⟩)]
   rw[k.rest p (fun c' e=>?_) (fun e=>?_) (fun hm=>?_)]
   .rfl
   .rcases hp with hp | ⟨c2,hc2,rfl⟩
    .exact hp.nsc c' e
    .refine hs ?_
     have h10:=jy5 m1 m2 c2
     have ec:jav (scr m c2)=20*c2+g2 m c2:=rfl
     rw[ec]
     have e1:(20*c2+g2 m c2) / 20=c2:=by omega
     rw[e1]
     omega
   .subst e
    have:jav ⟨2,0,fr⟩=100+fr:=rfl
    omega
   .obtain ⟨x,hx,e⟩:=f0o.1 hm
    exact h2 ⟨x,hx,e⟩
 .rw [show atL (jfm out) c=c from e2 c (fun p hp e=>h ⟨p,hp,e⟩),show jaz (jin L) c=jaz [] c from w2 (fun x hx e=>h ⟨x.to,(hE x hx).2.vp m1 m2,e⟩)]
  rfl
theorem j0n {out:List Mo} (k:OrdP m 0 [⟨⟨1,0,0⟩,⟨1,0,1⟩⟩] out):atL (jfm out) 1=0/\atL (jfm out) 0=0:=by
 have h10:=jy5 m1 m2 0
 have hE:∀ x∈[(⟨⟨1,0,0⟩,⟨1,0,1⟩⟩:Mo)],jcc m x.fr 0/\jcc m x.to 0:=fun x hx=>by
  rw[f13] at hx
  subst hx
  exact⟨.inr ⟨rfl,f2j 1,by show 0<g2 m 0;omega⟩,.inr ⟨rfl,f2j 1,by show 1<g2 m 0;omega⟩⟩
 constructor
 .rw [jle m1 m2 (by simp) hE k (by omega) (fun h=>by have h2:1=g2 m 0:=h.2;omega)];rfl
 .rw [jle m1 m2 (by simp) hE k (by omega) (fun h=>by have h2:0=g2 m 0:=h.2;omega)];rfl
end
def SG3 (f:FuncId):Bool:=Nat.beq f 7||Nat.beq f 6
noncomputable def G3:Fns:=PX SG3 G2
theorem j8q {A:Nat->Int}:Env Try.prog A tys G3:=jwu j8l
theorem j6n {f:FuncId} (h3:SG3 f=false) (h2:SG2 f=false) (h1:SG1 f=false) {vs:List AV}:jig G3 f vs h=none:=(jgk (S:=SG3) (F:=G2) h3).trans (j6l h2 h1)
theorem jy6 {bg mg c:Nat} {G:List (Nat×Nat)} (xb:h.get bg=some (.arr [.map mg] 35)) (xm:h.get mg=some (.map false (esK jlb G))) (hQ:Q (vi ((atL G c:Nat):Int)) h):WC G3 9 [vi (c:Int),.s (.ptr bg 0)] h Q:=by
 refine jbz (j6n rfl rfl rfl) j7t rfl ?_
 unfold j1k
 have lA:=jyy (okf:=true) (k:=c) xm
 unfold atL at hQ
 cases hc:jaz G c with
 | none =>
  rw[hc] at lA hQ
  simp(disch:=first|omega|rfl) only[go_sem,xb,jd6,lA,je5,f2i,f2b]
  exact hQ
 | some v =>
  rw[hc] at lA hQ
  simp(disch:=first|omega|rfl) only[go_sem,xb,jd6,lA,je5,f1y,Option.isSome_some]
  exact hQ
theorem jsv {bg mg c:Nat} {G:List (Nat×Nat)} (xb:h.get bg=some (.arr [.map mg] 35)) (xm:h.get mg=some (.map false (esK jlb G))) (hQ:Q (vi ((atL G c:Nat):Int)) h):WC G3 14 [vi (c:Int),.s (.ptr bg 0)] h Q:=by
 refine jbz (j6n rfl rfl rfl) j7u rfl ?_
 unfold j1l
 have lA:=jyy (okf:=true) (k:=c) xm
 unfold atL at hQ
 cases hc:jaz G c with
 | none =>
  rw[hc] at lA hQ
  simp(disch:=first|omega|rfl) only[go_sem,xb,jd6,lA,je5,f2i,f2b]
  exact hQ
 | some v =>
  rw[hc] at lA hQ
  simp(disch:=first|omega|rfl) only[go_sem,xb,jd6,lA,je5,f1y,Option.isSome_some]
  exact hQ
theorem jfe {p:Pl} (hk:p.k<=100) (hc:p.c<=100) (hn:p.n<=1000):WC G3 8 [.agg [si p.k,si p.c,si p.n]] h Q=Q (vi ((jav p:Nat):Int)) h:=jbs ((jgk rfl).trans (jd4 rfl rfl (j3l jp8 hk hc hn)))
theorem jgq (k:Ok h) {lo n:Nat}:(h.hide lo []).get n=h.get n:=by
 rw[jtq k,jfc];rfl
def Sml (x:Mo):Prop:=(x.fr.k<=100/\x.fr.c<=100/\x.fr.n<=1000)/\(x.to.k<=100/\x.to.c<=100/\x.to.n<=1000)
theorem j86 {l:List Mo} (hl:l.length<=1000) (hs:∀ x∈l,Sml x) (lX:LsE jad 6 X l) {bg mg n0:Nat} (b1:1<=bg) (m1:1<=mg) (hbm:bg≠mg) (lb:bg<n0) (lm:mg<n0) {x0 x1 x2 x3:AV} {Q:Ex->St->Prop} :
 ∀ (d i:Nat) (_:i+d=l.length) {h:Hp} (_:Ok h) (_:n0<=h.next) (_:h.get bg=some (.arr [.map mg] 35)) (_:h.get mg=some (.map false (esK jlb (jfm (l.take i))))) {x5 x7:AV}
  (hQ:∀ h' x5 x7,Ok h'->h'.get bg=some (.arr [.map mg] 35)->h'.get mg=some (.map false (esK jlb (jfm l)))->Q (.exit 0) (.mk [x0,x1,x2,x3,.s (.func 14 [(bg,0)]),x5,.s X,x7,vi l.length,vi l.length,.s (.ptr bg 0)] h')),
  W G3 jng.loop (.mk [x0,x1,x2,x3,.s (.func 14 [(bg,0)]),x5,.s X,x7,vi l.length,vi i,.s (.ptr bg 0)] h) Q
 | 0,i,hd,h,ok,hn,xb,xm,x5,x7,hQ=>by
  obtain rfl:i=l.length:=by omega
  rw[f0s (f0b _)] at xm
  rw[jbg]
  unfold jng
  simp(disch:=first|omega|rfl) only[go_sem,f1r]
  exact hQ h _ _ ok xb xm
 | d+1,i,hd,h,ok,hn,xb,xm,x5,x7,hQ=>by
  have hil:i<l.length:=by omega
  have hlt:(i:Int)<(l.length:Int):=by omega
  have hsu:(i:Int)+1=((i+1:Nat):Int):=by omega
  obtain⟨y,hu⟩:∃ u,l[i]?=some u:=⟨_,f0g hil⟩
  obtain⟨⟨s1,s2,s3⟩,s4,s5,s6⟩:=hs y (f0t hu)
  have ix:=lX.at_ hu
  have et:jfm (l.take (i+1))=jci (jfm (l.take i)) y:=by
   unfold jfm
   rw[f0z hil,(f0e.1 hu).2,f2f];rfl
  obtain⟨hA,eA,okA,nA,xA,gA⟩:=jsq ok [.int .i64 0,.int .i64 0,.int .i64 0,.int .i64 0,.int .i64 0,.int .i64 0] (jad y) 39
  have yb:=(gA bg (by omega)).trans xb
  have ym:=(gA mg (by omega)).trans xm
  have cF:∀ (Q:AV->Hp->Prop) (h:Hp),WC G3 8 [.agg [si y.fr.k,si y.fr.c,si y.fr.n]] h Q=Q (vi ((jav y.fr:Nat):Int)) h:=fun Q h=>jfe s1 s2 s3
  have cT:∀ (Q:AV->Hp->Prop) (h:Hp),WC G3 8 [.agg [si y.to.k,si y.to.c,si y.to.n]] h Q=Q (vi ((jav y.to:Nat):Int)) h:=fun Q h=>jfe s4 s5 s6
  obtain⟨a,ea⟩:∃ a,jav y.fr=a:=⟨_,rfl⟩
  obtain⟨z,ez⟩:∃ a,jav y.to=a:=⟨_,rfl⟩
  rw[ea] at cF
  rw[ez] at cT
  have uA:=j3z (k:=z) (v:=atL (jfm (l.take i)) a) ym
  have es:jo4 (jfm (l.take i)) z (atL (jfm (l.take i)) a)=jfm (l.take (i+1)):=by rw[et];unfold jci;rw[ea,ez]
  rw[es] at uA
  obtain⟨hB,eB,okB,nB,xB,gB⟩:=ju4 okA m1 (some (.map false (esK jlb (jfm (l.take (i+1))))))
  rw[eB] at uA
  unfold jad at eA xA ix
  rw[jbg]
  unfold jng jxc
  have hh:(hA.next<=h.next/\h.next<hA.next)=False:=eq_false (by omega)
  simp(disch:=first|omega|rfl) only[go_sem,eq_true hlt,ix,eA,xA,yb,cF,cT,hh]
  refine jgp (f:=14) (caps:=[(bg,0)]) (vs:=[vi (a:Int)]) (hd:=[]) okA ?h1 ?h2 ?h3 ?_
  case h1=>rfl
  case h2=>rfl
  case h3=>rfl
  refine jsv (c:=a) ((jgq okA).trans yb) ((jgq okA).trans ym) ?_
  simp(disch:=first|omega|rfl) only[go_sem,jlc,uA,jak,hsu]
  exact j86 hl hs lX b1 m1 hbm lb lm d (i+1) (by omega) okB (by omega) ((gB bg hbm).trans yb) xB hQ
theorem j37 {l:List Mo} (hl:l.length<=1000) (hs:∀ x∈l,Sml x) (lX:LsE jad 6 X l) (ok:Ok h) {a b:Nat}
 (hQ:∀ h',Q (vb (decide (atL (jfm l) b=a)&&decide (atL (jfm l) a=a))) h'):WC G3 10 [.s X,vi (a:Int),vi (b:Int)] h Q:=by
 refine jbz (j6n rfl rfl rfl) j7v rfl ?_
 unfold j1m
 have hp:=ok.pos
 have ll:=lX.len
 obtain⟨hA,eA,okA,nA,xA,gA⟩:=j6m ok (.map false [])
 obtain⟨hB,eB,okB,nB,xB,gB⟩:=jsq okA [.nilMap] [.map h.next] 35
 simp(disch:=first|omega|rfl) only[go_sem,jo5,eA,eB,ll]
 rw[nA] at eB xB
 simp(disch:=first|omega|rfl) only[go_sem,nA,eB,ll]
 refine j86 hl hs lX (bg:=h.next+1) (mg:=h.next) (n0:=h.next+2) (by omega) (by omega) (by omega) (by omega) (by omega) l.length 0 (by omega) okB (by omega) xB ((gB _ (by omega)).trans xA) (fun h' x5 x7 ok' xb xm=>?_)
 simp(disch:=first|omega|rfl) only[go_sem]
 rw[jgm rfl]
 simp(disch:=first|omega|rfl) only[go_sem]
 refine jsv (c:=b) xb xm ?_
 have hq:=hQ h'
 by_cases h1:atL (jfm l) b=a
 .have c1:(((atL (jfm l) b:Nat):Int)=(a:Int))=True:=eq_true (by omega)
  simp(disch:=first|omega|rfl) only[go_sem,c1]
  rw[jgm rfl]
  simp(disch:=first|omega|rfl) only[go_sem]
  refine jsv (c:=a) xb xm ?_
  rw[decide_eq_true h1,Bool.true_and] at hq
  have c2:decide (((atL (jfm l) a:Nat):Int)=(a:Int))=decide (atL (jfm l) a=a):=decide_eq_decide.2 (by omega)
  simp(disch:=first|omega|rfl) only[go_sem,c2]
  exact hq
 .have c1:(((atL (jfm l) b:Nat):Int)=(a:Int))=False:=eq_false (by omega)
  rw[decide_eq_false h1,Bool.false_and] at hq
  simp(disch:=first|omega|rfl) only[go_sem,c1]
  exact hq
end Go.Proofs.Ytmcfkgjjnhlkiaa.Ev
