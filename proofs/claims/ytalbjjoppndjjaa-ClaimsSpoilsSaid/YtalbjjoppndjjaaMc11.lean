/- Functions built of pieces: the pieces, one by one. -/
import Derived.Test.YtalbjjoppndjjaaMc6
namespace Go.Proofs.Ytalbjjoppndjjaa.Ev
open Go Go.RowKit Go.Proofs.Ytalbjjoppndjjaa.Ms
attribute [local go_sem] Int.reduceToNat reduceCtorEq Nat.reduceAdd Nat.reduceMul Nat.reduceEqDiff Int.reduceEq Int.reduceLT Int.reduceLE Int.reduceNeg Int.reduceAdd Int.reduceSub Int.reduceMul Int.reduceNe
attribute [local go_sem ↓] reduceIte
set_option linter.all false
set_option maxRecDepth 100000
set_option maxHeartbeats 2000000
variable {x0:AV} {Q:Ex->St->Prop} {f:Fc} {ms:List Nat} {row cells:List SV} {ty:Nat} {xl:SV}
structure LstE {α:Type} (enc:α->List SV) (size:Nat) (x:SV) (l:List α):Prop where
 len:jxu (.s x)=some (vi l.length)
 at_:∀ {i:Nat} {a:α},l[i]?=some a->jsz size (.s x) (vi (i:Int))=some (.s (.cp (enc a)))
 grd:grd x=true
theorem LstE.enc {α:Type} {enc:α->List SV} {size:Nat} {l:List α} (hs:∀ a,(enc a).length=size):LstE enc size (jae enc l) l:=⟨jah,fun h=>jag h (hs _),ja9⟩
theorem LstE.emp {α:Type} {enc:α->List SV} {size:Nat}:LstE enc size (.lst []) []:=⟨rfl,fun h=>by simp at h,rfl⟩
theorem j1d {h0:Hp} {p:Nat} {ns:List Nat} {L:List (Nat×AB)} (hpos:1<=h0.next) {l:List Pc} (pin:∀ q∈l,Pin q) (lx:LstE jb6 7 xl l) {x2 x12:AV} :
 ∀ (rest done:List Pc) (_:done++rest=l) (_:done.length<=24) {hi:Hp} {w:Ms} {ns':List Nat} (_:FS h0 hi p w ns L ns') (_:Wok w (100*done.length+10)) {x3 x4 x5 x6 x7 x8 x9:AV}
  (hQ:∀ hj ns'' x3 x4 x5 x6 x7 x8 x9 x10,FS h0 hj p ((rest.take (24 - done.length)).foldl jbj w) ns L ns''->Wok ((rest.take (24 - done.length)).foldl jbj w) 2500->Q (.exit 0) (.mk [x0,.s xl,x2,x3,x4,x5,x6,x7,x8,x9,x10,.s (.ptr p 0),x12] hj)),
  W F2 jh3.loop (.mk [x0,.s xl,x2,x3,x4,x5,x6,x7,x8,x9,vi done.length,.s (.ptr p 0),x12] hi) Q
 | [],done,hdn,h24,hi,w,ns',K,wk,x3,x4,x5,x6,x7,x8,x9,hQ=>by
  rw[f05] at hdn
  subst hdn
  rw[jaj]
  unfold jh3
  have ll:=lx.len
  simp(disch:=first|omega|rfl) only[go_sem,ll,f0u]
  exact hQ hi ns' _ _ _ _ _ _ _ _ (by simpa using K) (by simpa using wk.le (by omega))
 | pc::rest,done,hdn,h24,hi,w,ns',K,wk,x3,x4,x5,x6,x7,x8,x9,hQ=>by
  have ll:=lx.len
  have hlt1:done.length<l.length:=by rw[←hdn];simp
  have hlt:(done.length:Int)<l.length:=by omega
  by_cases h9:(done.length:Int)<24
  .have hget:l[done.length]?=some pc:=by rw[←hdn];simp
   have pn:=pin pc (f0c hget)
   have hix:=lx.at_ hget
   have hdn':(done++[pc])++rest=l:=by rw[←hdn];simp
   have hlen2:(done++[pc]).length=done.length+1:=by simp
   have hsucc:((done.length:Int)+1)=(((done++[pc]).length:Nat):Int):=by rw[hlen2];omega
   have wkp:=wk.piece pc
   have fin:∀ hj ns'' x3 x4 x5 x6 x7 x8 x9,FS h0 hj p (jbj w pc) ns L ns''->W F2 jh3.loop (.mk [x0,.s xl,x2,x3,x4,x5,x6,x7,x8,x9,vi (done++[pc]).length,.s (.ptr p 0),x12] hj) Q:=fun hj ns'' y3 y4 y5 y6 y7 y8 y9 KJ=>by
    have e:24 - done.length=(24 - (done++[pc]).length)+1:=by rw[hlen2];omega
    refine j1d hpos pin lx rest (done++[pc]) hdn' (by rw[hlen2];omega) KJ (wkp.le (by rw[hlen2];omega)) (fun hj' ns3 z3 z4 z5 z6 z7 z8 z9 z10 KZ wkz=>hQ hj' ns3 z3 z4 z5 z6 z7 z8 z9 z10 ?_ ?_)
    .rw [e,List.take_succ_cons,f2d];exact KZ
    .rw [e,List.take_succ_cons,f2d];exact wkz
   rw[jaj]
   have ok:=K.ok
   have K1:=(K.push (a:=.arr [.int .i64 0,.int .i64 0,.int .i64 0,.int .i64 0,.int .i64 0,.int .i64 0,.int .i64 0] 65)).put (a':=.arr (jb6 pc) 65) (fun r hr=>by have:=(K.kp r hr).2.2.1;omega) hpos
   obtain⟨hA,eA⟩:∃ hA,(hi.push (AB.arr [.int .i64 0,.int .i64 0,.int .i64 0,.int .i64 0,.int .i64 0,.int .i64 0,.int .i64 0] 65)).put hi.next (some (.arr (jb6 pc) 65))=hA:=⟨_,rfl⟩
   rw[eA] at K1
   have okA:=K1.ok
   have hxA:=(K1.kp _ (f07 ..)).1
   have hcur:=wk.cur
   have hnb:=wk.nb
   have hk6:=jfz (n:=pc.kind) (m:=6) (by omega)
   obtain⟨bx,ebx⟩:∃ bx,hi.next=bx:=⟨_,rfl⟩
   rw[ebx] at K1 hxA eA
   have pe:=qby w pc
   obtain⟨⟨q1,q2⟩,⟨q3,q4⟩,⟨q5,q6⟩,⟨q7,q8⟩,⟨q9,q10⟩,⟨q11,q12⟩,⟨q13,q14⟩⟩:=id pn
   unfold jb6 at hxA eA
   unfold jh3
   simp(disch:=first|omega|rfl) only[go_sem,ll,eq_true hlt,eq_true h9]
   unfold j1a
   simp(disch:=first|omega|rfl) only[go_sem,hix,jb6,ebx,eA]
   refine qg7 K1 hcur (by omega) ?_
   have drop:∀ r∈L,r∈(bx,AB.arr (jb6 pc) 65)::L:=fun r hr=>f0s _ hr
   by_cases hr:j1b w=true
   .by_cases hz:((pk pc.kind 6:Nat):Int)=0
    .have hp:jbj w pc=jd9 w pc:=by rw[pe,if_pos ⟨by omega,hr⟩]
     simp(disch:=first|omega|rfl) only[go_sem,jff,jfg,jfh,jfi,jfj,jbw,jan,jak,ja8 jh8,hxA,hr,eq_true hz]
     refine WC.imp (qg6 K1.ok K1.mr wk (by omega) pc pn) ?_
     rintro _ h2 ⟨rfl,ns2,m2,v2⟩
     have K2:=K1.step m2 v2
     simp(disch:=first|omega|rfl) only[go_sem,jac,hsucc]
     rw[←hp] at K2
     exact fin h2 ns2 _ _ _ _ _ _ _ (K2.sub drop)
    .by_cases ho:((pk pc.kind 6:Nat):Int)=1
     .have hp:jbj w pc=jer w pc:=by rw[pe,if_neg (fun e=>hz (by omega)),if_pos ⟨by omega,hr⟩]
      simp(disch:=first|omega|rfl) only[go_sem,jff,jfg,jfh,jfi,jfj,jbw,jan,jak,ja8 jh8,hxA,hr,eq_false hz,eq_true ho]
      refine WC.imp (qbx K1.ok K1.mr wk (by omega) pc pn) ?_
      rintro _ h2 ⟨rfl,ns2,m2,v2⟩
      have K2:=K1.step m2 v2
      simp(disch:=first|omega|rfl) only[go_sem,jac,hsucc]
      rw[←hp] at K2
      exact fin h2 ns2 _ _ _ _ _ _ _ (K2.sub drop)
     .have n1:¬ (pk pc.kind 6=0/\j1b w=true):=fun e=>hz (by omega)
      have n2:¬ (pk pc.kind 6=1/\j1b w=true):=fun e=>ho (by omega)
      simp(disch:=first|omega|rfl) only[go_sem,jff,jfg,jfh,jfi,jfj,jbw,jan,jak,ja8 jh8,hxA,hr,eq_false hz,eq_false ho]
      refine jm8 K1 hcur ?_
      by_cases h2:jms w=true
      .have hp:jbj w pc=jb7 w pc:=by rw[pe,if_neg n1,if_neg n2,if_pos h2]
       rw[h2]
       simp(disch:=first|omega|rfl) only[go_sem,hxA]
       refine WC.imp (jie K1 wk (by omega) (pc:=pc) pn) ?_
       rintro _ h2 ⟨rfl,ns2,K2⟩
       simp(disch:=first|omega|rfl) only[go_sem,jac,hsucc]
       rw[←hp] at K2
       exact fin h2 ns2 _ _ _ _ _ _ _ (K2.sub drop)
      .have hp:jbj w pc=w:=by rw[pe,if_neg n1,if_neg n2,if_neg h2]
       have h2':jms w=false:=by simpa using h2
       rw[h2']
       simp(disch:=first|omega|rfl) only[go_sem,jac,hsucc]
       have K1':=K1
       rw[←hp] at K1'
       exact fin hA ns' _ _ _ _ _ _ _ (K1'.sub drop)
   .have n1:¬ (pk pc.kind 6=0/\j1b w=true):=fun e=>hr e.2
    have n2:¬ (pk pc.kind 6=1/\j1b w=true):=fun e=>hr e.2
    have hr:j1b w=false:=by simpa using hr
    by_cases hz:((pk pc.kind 6:Nat):Int)=0
    .have ho:¬ ((pk pc.kind 6:Nat):Int)=1:=by omega
     simp(disch:=first|omega|rfl) only[go_sem,jff,jfg,jfh,jfi,jfj,jbw,jan,jak,ja8 jh8,hxA,hr,eq_true hz,eq_false ho,Int.reduceEq]
     refine jm8 K1 hcur ?_
     by_cases h2:jms w=true
     .have hp:jbj w pc=jb7 w pc:=by rw[pe,if_neg n1,if_neg n2,if_pos h2]
      rw[h2]
      simp(disch:=first|omega|rfl) only[go_sem,hxA]
      refine WC.imp (jie K1 wk (by omega) (pc:=pc) pn) ?_
      rintro _ h2 ⟨rfl,ns2,K2⟩
      simp(disch:=first|omega|rfl) only[go_sem,jac,hsucc]
      rw[←hp] at K2
      exact fin h2 ns2 _ _ _ _ _ _ _ (K2.sub drop)
     .have hp:jbj w pc=w:=by rw[pe,if_neg n1,if_neg n2,if_neg h2]
      have h2':jms w=false:=by simpa using h2
      rw[h2']
      simp(disch:=first|omega|rfl) only[go_sem,jac,hsucc]
      have K1':=K1
      rw[←hp] at K1'
      exact fin hA ns' _ _ _ _ _ _ _ (K1'.sub drop)
    .by_cases ho:((pk pc.kind 6:Nat):Int)=1
     .skip
      simp(disch:=first|omega|rfl) only[go_sem,jff,jfg,jfh,jfi,jfj,jbw,jan,jak,ja8 jh8,hxA,hr,eq_false hz,eq_true ho]
      refine jm8 K1 hcur ?_
      by_cases h2:jms w=true
      .have hp:jbj w pc=jb7 w pc:=by rw[pe,if_neg n1,if_neg n2,if_pos h2]
       rw[h2]
       simp(disch:=first|omega|rfl) only[go_sem,hxA]
       refine WC.imp (jie K1 wk (by omega) (pc:=pc) pn) ?_
       rintro _ h2 ⟨rfl,ns2,K2⟩
       simp(disch:=first|omega|rfl) only[go_sem,jac,hsucc]
       rw[←hp] at K2
       exact fin h2 ns2 _ _ _ _ _ _ _ (K2.sub drop)
      .have hp:jbj w pc=w:=by rw[pe,if_neg n1,if_neg n2,if_neg h2]
       have h2':jms w=false:=by simpa using h2
       rw[h2']
       simp(disch:=first|omega|rfl) only[go_sem,jac,hsucc]
       have K1':=K1
       rw[←hp] at K1'
       exact fin hA ns' _ _ _ _ _ _ _ (K1'.sub drop)
     .skip
      simp(disch:=first|omega|rfl) only[go_sem,jff,jfg,jfh,jfi,jfj,jbw,jan,jak,ja8 jh8,hxA,hr,eq_false hz,eq_false ho]
      refine jm8 K1 hcur ?_
      by_cases h2:jms w=true
      .have hp:jbj w pc=jb7 w pc:=by rw[pe,if_neg n1,if_neg n2,if_pos h2]
       rw[h2]
       simp(disch:=first|omega|rfl) only[go_sem,hxA]
       refine WC.imp (jie K1 wk (by omega) (pc:=pc) pn) ?_
       rintro _ h2 ⟨rfl,ns2,K2⟩
       simp(disch:=first|omega|rfl) only[go_sem,jac,hsucc]
       rw[←hp] at K2
       exact fin h2 ns2 _ _ _ _ _ _ _ (K2.sub drop)
      .have hp:jbj w pc=w:=by rw[pe,if_neg n1,if_neg n2,if_neg h2]
       have h2':jms w=false:=by simpa using h2
       rw[h2']
       simp(disch:=first|omega|rfl) only[go_sem,jac,hsucc]
       have K1':=K1
       rw[←hp] at K1'
       exact fin hA ns' _ _ _ _ _ _ _ (K1'.sub drop)
  .have h24':24 - done.length=0:=by omega
   rw[jaj]
   unfold jh3
   simp(disch:=first|omega|rfl) only[go_sem,ll,eq_true hlt,eq_false h9]
   exact hQ hi ns' _ _ _ _ _ _ _ _ (by rw[h24'];exact K) (by rw[h24'];exact wk.le (by omega))
section
variable {k:Bool} {h:Hp} {d:Nat}
theorem EI.frz {n:Nat} (e:EI row n ms):jgl (jfp k h (d+1)) row=some (jat n):=by
 obtain⟨rfl,rfl⟩:=e;rfl
theorem EO.frz {n:Ms.Opd} (e:EO row n ms):jgl (jfp k h (d+1)) row=some (ja5 n):=by
 obtain⟨rfl,rfl⟩:=e;rfl
theorem ER.frz {n:Nat×Nat} (e:ER row n ms):jgl (jfp k h (d+1)) row=some (jcr n):=by
 obtain⟨rfl,rfl⟩:=e;rfl
theorem EX.frz {x:Ms.Ins} (e:EX tt h row x ms):jgl (jfp k h (d+2)) row=some (jdo x):=by
 obtain⟨a,b,n1,n2,rfl,h1,h2,rfl⟩:=e
 exact jbp rfl (jbp (h1.frz (fun _ _ _ e=>EO.frz e) (fun _=>rfl)) (jbp (h2.frz (fun _ _ _ e=>ER.frz e) (fun _=>rfl)) rfl))
theorem EE.frz {x:Ms.Edg} (e:EE tt h row x ms):jgl (jfp k h (d+2)) row=some (jg0 x):=by
 obtain⟨a,rfl,h1⟩:=e
 exact jbp rfl (jbp (h1.frz (fun _ _ _ e=>EI.frz e) (fun _=>rfl)) rfl)
theorem EB.frz {x:Ms.Blk} (e:EB tt h row x ms):jgl (jfp k h (d+3)) row=some (ja0 x):=by
 obtain⟨p,i,e,n1,n2,n3,rfl,h1,h2,h3,rfl⟩:=e
 exact jbp (h1.frz (fun _ _ _ e=>EI.frz e) (fun _=>rfl)) (jbp (h2.frz (fun _ _ _ e=>EX.frz e) (fun _=>rfl)) (jbp (h3.frz (fun _ _ _ e=>EE.frz e) (fun _=>rfl)) rfl))
theorem qbz {w:Ms} {a b:SV} {n1 n2:List Nat} (h1:Sl h tt.int 1 false EI a w.values n1) (h2:Sl h tt.blk 3 false (EB tt h) b w.blocks n2):jgm k h 4 (.agg [a,b])=some (.agg (jzj ⟨w.values,w.blocks⟩)) :=
 jaa.2 ⟨_,jbp (h1.frz (fun _ _ _ e=>EI.frz e) (fun _=>rfl)) (jbp (h2.frz (fun _ _ _ e=>EB.frz e) (fun _=>rfl)) rfl),rfl⟩
end
theorem qb0 {h:Hp} (ok:Ok h) {m:Nat×Nat} {l:List Pc} (m1:2<=m.1/\m.1<=10) (m2:2<=m.2/\m.2<=10) (pin:∀ q∈l,Pin q) (lx:LstE jb6 7 xl l):WC F2 7 [.agg [si m.1,si m.2],.s xl] h (fun v h'=>∃ d,jgm true h' d v=some (.agg (jzj (jeh m l)))):=by
 refine jba (no2 rfl rfl) qne rfl ?_
 unfold j7o
 have hpos:=ok.pos
 obtain⟨hA,eA⟩:∃ hA,(h.push (AB.arr [si m.1,si m.2] 30)).push (AB.arr [.nilSlice,.nilSlice] 26)=hA:=⟨_,rfl⟩
 have okA:Ok hA:=by rw[←eA];exact jaq (jaq ok)
 have nA:hA.next=h.next+2:=by rw[←eA];rfl
 have xA:hA.get h.next=some (AB.arr [si m.1,si m.2] 30):=by rw[←eA,jal (jaq ok),if_neg (by rw[Hp.next_push];omega),jal ok,if_pos rfl]
 have yA:hA.get (h.next+1)=some (AB.arr [.nilSlice,.nilSlice] 26):=by rw[←eA,jal (jaq ok),if_pos (by rw[Hp.next_push])]
 obtain⟨hB,eB⟩:∃ hB,hA.push (AB.arr [si m.1,si m.2,.nilSlice,.nilSlice,.int .i64 0,.nilSlice,.int .i64 0] 62)=hB:=⟨_,rfl⟩
 have okB:Ok hB:=by rw[←eB];exact jaq okA
 have nB:hB.next=h.next+3:=by rw[←eB,Hp.next_push,nA]
 have pB:hB.get (h.next+2)=some (AB.arr [si m.1,si m.2,.nilSlice,.nilSlice,.int .i64 0,.nilSlice,.int .i64 0] 62):=by rw[←eB,jal okA,if_pos nA.symm]
 have yB:hB.get (h.next+1)=some (AB.arr [.nilSlice,.nilSlice] 26):=by rw[←eB,jal okA,if_neg (by omega)];exact yA
 have mrB:MR tt hB (h.next+2) ⟨m,[],[],0,[],0⟩ [h.next+2]:=⟨⟨_,_,_,[],[],[],pB,Sl.nil,Sl.nil,Sl.nil,rfl⟩,by simp,fun n hn=>by simp at hn;omega⟩
 simp(disch:=first|omega|rfl) only[go_sem,eA,xA,nA,eB]
 refine WC.imp (jt3 okB mrB (N:=10) (by simp) (by simp) (by omega) (cs:=[]) (nsx:=[]) Sl.nil (by simp) (by simp) (by simp)) ?_
 rintro _ h1 ⟨rfl,ns1,mr1,mv1⟩
 have K1:FS hB h1 (h.next+2) (jbo m) [h.next+2] [] ns1:=⟨mv1.ok,mr1,mv1,by simp⟩
 have wk1:Wok (jbo m) 10:=⟨m1,m2,by simp[jbo],by simp[jbo],by simp[jbo],by simp[jbo],by simp[jbo],by simp[jbo],by simp[jbo],by simp[jbo]⟩
 simp(disch:=first|omega|rfl) only[go_sem]
 refine j1d (by omega) pin lx l [] rfl (by simp) K1 (wk1.le (by simp)) ?_
 intro h2 ns2 x3 x4 x5 x6 x7 x8 x9 x10 K2 wk2
 have e24:24 - ([]:List Pc).length=24:=rfl
 rw[e24] at K2 wk2
 have ok2:=K2.ok
 simp(disch:=first|omega|rfl) only[go_sem]
 refine WC.imp (jie K2 wk2 (by omega) (pc:=⟨0,0,1,0,0,0,3⟩) ⟨by decide,by decide,by decide,by decide,by decide,by decide,by decide⟩) ?_
 rintro _ h3 ⟨rfl,ns3,K3⟩
 have y3:h3.get (h.next+1)=_:=(K3.mv.keep (h.next+1) (by omega) (by simp)).trans yB
 have ok3:=K3.ok
 obtain⟨⟨a,b,c,n1,n2,n3,hg,hv,hb,hk,e⟩,hd,hlt⟩:=K3.mr
 simp(disch:=first|omega|rfl) only[go_sem,hg,y3]
 refine⟨4,?_⟩
 have kp:∀ n∈n1++n2,(h3.put (h.next+1) (some (AB.arr [a,b] 26))).get n=h3.get n:=fun n hn=>by
  rw[jai ok3 (by omega),if_neg (fun e2=>?_)]
  have hm:n∈ns3:=by rw[e];rcases f0e.1 hn with h | h<;>simp[h]
  rcases K3.mv.new n hm with h4 | h4
  .simp at h4;omega
  .omega
 exact qbz (w:=jb7 ((l.take 24).foldl jbj (jbo m)) ⟨0,0,1,0,0,0,3⟩) (hv.keep (fun n hn=>kp n (by simp[hn]))) (hb.imp (fun n hn=>kp n (by simp[hn])) (fun row a ms hm k=>k.keep (fun n hn=>kp n (by simp[hm n hn]))))
def jqp (a b:Int):Nat×Nat:=(2+pk a 9,2+pk b 9)
def qly (m:Nat×Nat):List SV:=[si m.1,si m.2]
def In6 (a:Int):Prop:=-9223372036854775808<=a/\a<=9223372036854775807
theorem j7r (a b:Int):(2<=(jqp a b).1/\(jqp a b).1<=10)/\(2<=(jqp a b).2/\(jqp a b).2<=10):=by
 have h1:=jfz (n:=a) (m:=9) (by omega)
 have h2:=jfz (n:=b) (m:=9) (by omega)
 unfold jqp;simp only;omega
theorem jzq {h:Hp} (ok:Ok h) {a b:Int} (ha:In6 a) (hb:In6 b):WC F2 8 [vi a,vi b] h (fun v h'=>∃ d,jgm true h' d v=some (.agg (qly (jqp a b)))):=by
 refine jba (no2 rfl rfl) j52 rfl ?_
 unfold jra
 have hpos:=ok.pos
 obtain⟨a1,a2⟩:=ha
 obtain⟨b1,b2⟩:=hb
 have h1:=jfz (n:=a) (m:=9) (by omega)
 have h2:=jfz (n:=b) (m:=9) (by omega)
 have e1:2+((pk a 9:Nat):Int)=((2+pk a 9:Nat):Int):=by omega
 have e2:2+((pk b 9:Nat):Int)=((2+pk b 9:Nat):Int):=by omega
 simp(disch:=first|omega|rfl) only[go_sem,jff,jfg,jfh,jfi,jfj,jbw,jan,jak,ja8 jh8,jac,e1,e2]
 exact⟨1,rfl⟩
theorem qup {h:Hp} (ok:Ok h) {b n:Nat} {ex:Bool} {c:SV} (hb:1<=b/\b<h.next) (hg:h.get b=some (.arr cells ty)) (hn:cells.length=n) (hs:n<=100000000) (hn1:1<=n) :
 ∃ h2,jo8 (h.push (.arr [c] ty)) ty 1 8 (.s (.slice b 0 n n ex 1)) (.s (.slice h.next 0 1 1 true 1))=some (.s (.slice (h.next+1) 0 (n+1) (n+1) false 1),h2)/\Ok h2/\h2.next=h.next+2/\h2.get (h.next+1)=some (.arr (cells++[c]) ty)/\∀ k,k<h.next->k≠b->h2.get k=h.get k:=by
 subst hn
 have ok1:Ok (h.push (AB.arr [c] ty)):=jaq ok
 have g1:(h.push (AB.arr [c] ty)).get b=some (.arr cells ty):=by rw[jal ok,if_neg (by omega)];exact hg
 have hrd:rdB ((h.push (AB.arr [c] ty)).get h.next) 0 (1*1)=some [c]:=by rw[jal ok,if_pos rfl];rfl
 cases ex with
 | false =>
  refine⟨((h.push (AB.arr [c] ty)).put b none).push (.arr (cells++[c]) ty),?_,jaq (jao ok1),by rw[Hp.next_push,Hp.next_put,Hp.next_push],?_,fun k h1 h2=>?_⟩
  .rw [jeg (by omega),hrd,g1]
   exact js0 ok1 (by omega) (by omega) (by omega)
  .rw [jal (jao ok1),if_pos (by rw[Hp.next_put,Hp.next_push])]
  .rw [jal (jao ok1),if_neg (by rw[Hp.next_put,Hp.next_push];omega),jai ok1 hb.1,if_neg h2,jal ok,if_neg (by omega)]
 | true =>
  refine⟨(h.push (AB.arr [c] ty)).push (.arr (cells++[c]) ty),?_,jaq ok1,by rw[Hp.next_push,Hp.next_push],?_,fun k h1 h2=>?_⟩
  .show ob (rdB ((h.push (AB.arr [c] ty)).get h.next) 0 (1*1)) (fun new=>oif (Nat.beq 1 1) (oif (Nat.ble (Nat.add cells.length 1) cells.length) _ (jgj 8 (Nat.add cells.length 1) (jfw (h.push (AB.arr [c] ty)) ty 1 b 0 cells.length 1 true new))) none)=_
   rw[hrd]
   have e1:Nat.ble (Nat.add cells.length 1) cells.length=false:=by
    cases e:Nat.ble (Nat.add cells.length 1) cells.length with
    | false=>rfl
    | true=>rw[jr2] at e;have:cells.length+1<=cells.length:=e;omega
   show oif (Nat.ble (Nat.add cells.length 1) cells.length) _ (jgj 8 (cells.length+1) (jfw (h.push (AB.arr [c] ty)) ty 1 b 0 cells.length 1 true [c]))=_
   rw[e1]
   show jgj 8 (cells.length+1) (jfw (h.push (AB.arr [c] ty)) ty 1 b 0 cells.length 1 true [c])=_
   rw[jjz (by omega) (by omega)]
   show ob ((h.push (AB.arr [c] ty)).get b) _=_
   rw[g1]
   show ob (jby (Nat.mul cells.length 1) cells) _=_
   rw[(ja4 (n:=Nat.mul cells.length 1) (l:=cells) (r:=cells)).2 ⟨by show cells.length*1<=_;omega,by show cells=cells.take (cells.length*1);rw[f3j,f2t]⟩]
   show nw (h.push (AB.arr [c] ty)) (jgi cells [c]) ty (fun k h=>some (AV.s (SV.slice k 0 (cells.length+1) (cells.length+1) false 1),h))=_
   rw[jsy ok1,jct]
   rfl
  .rw [jal ok1,if_pos (by rw[Hp.next_push])]
  .rw [jal ok1,if_neg (by rw[Hp.next_push];omega),jal ok,if_neg (by omega)]
def stF (s:List Nat) (x:Blk):List Nat:=s++[s.getLastD 0+2+2*x.instrs.length]
def jau (l:List Blk):List Nat:=l.foldl stF [0]
theorem jpx (l:List Blk) (x:Blk):jau (l++[x])=jau l++[(jau l).getLastD 0+2+2*x.instrs.length]:=by
 unfold jau;rw[List.foldl_append];rfl
theorem j7s:∀ (l:List Blk) (s:List Nat),(l.foldl stF s).length=s.length+l.length
 | [],s=>rfl
 | x::l,s=>by
  rw[f2d,j7s l (stF s x)]
  simp[stF];omega
theorem jey (l:List Blk):(jau l).length=l.length+1:=by
 unfold jau;rw[j7s];simp;omega
theorem j7t:∀ (l:List Blk) (s:List Nat),∃ t,l.foldl stF s=s++t
 | [],s=>⟨[],by simp⟩
 | x::l,s=>by
  obtain⟨t,h⟩:=j7t l (stF s x)
  exact⟨[s.getLastD 0+2+2*x.instrs.length]++t,by rw[f2d,h];simp[stF]⟩
theorem jrn (l r:List Blk):∃ t,jau (l++r)=jau l++t:=by
 unfold jau;rw[List.foldl_append];exact j7t r _
theorem jwt {s:List Nat} (h:s≠[]):s[s.length - 1]?=some (s.getLastD 0):=by
 rw[←List.getLast?_eq_getElem?,List.getLastD_eq_getLast?]
 cases e:s.getLast? with
 | none=>rw[List.getLast?_eq_none_iff] at e;exact absurd e h
 | some a=>rfl
theorem jwu (l:List Blk):jau l≠[]:=by
 intro e;have:=jey l;rw[e] at this;simp at this
theorem jiz (l:List Blk):(jau l)[0]?=some 0:=by
 obtain⟨t,h⟩:=jrn [] l
 rw[f1j] at h
 rw[h];rfl
theorem jpy (l:List Blk):(jau l)[l.length]?=some ((jau l).getLastD 0):=by
 have:=jwt (jwu l)
 rwa [jey] at this
theorem jfa {l:List Blk} {k:Nat} {x:Blk} (h:l[k]?=some x):∃ n,(jau l)[k]?=some n/\(jau l)[k+1]?=some (n+2+2*x.instrs.length):=by
 have hk:k<l.length:=by
  rcases f0g k l.length with h1 | h1
  .exact h1
  .rw [f0o h1] at h;cases h
 have e:l=l.take k++([x]++l.drop (k+1)):=by
  rw[f0a hk] at h
  obtain rfl:=Option.some.inj h
  simp
 have hl:(l.take k).length=k:=by rw[f1x];omega
 obtain⟨t,ht⟩:=jrn (l.take k++[x]) (l.drop (k+1))
 rw[f0q,←e] at ht
 rw[jpx] at ht
 have hs:=jey (l.take k)
 rw[hl] at hs
 have hlast:=jpy (l.take k)
 rw[hl] at hlast
 refine⟨(jau (l.take k)).getLastD 0,?_,?_⟩
 .rw [ht,f0j (by simp;omega),f0j (by omega)]
  exact hlast
 .rw [ht,f0j (by simp;omega),f0m (by omega),hs]
  simp
theorem jwv:∀ (l:List Blk),(∀ b∈l,b.instrs.length<=10000)->∀ (s:List Nat) (N:Nat),(∀ n∈s,n<=N)->∀ n∈l.foldl stF s,n<=N+20002*l.length
 | [],_,s,N,h,n,hn=>h n hn
 | x::l,hb,s,N,h,n,hn=>by
  rw[f2d] at hn
  have hx:=hb x (by simp)
  have:=jwv l (fun b hm=>hb b (by simp[hm])) (stF s x) (N+20002) (fun m hm=>by
   rcases f0e.1 hm with h1 | h1
   .have:=h m h1;omega
   .obtain rfl:=f0i.1 h1
    have:s.getLastD 0<=N:=by
     rw[List.getLastD_eq_getLast?]
     cases e:s.getLast? with
     | none=>simp
     | some a=>exact h a (List.mem_of_getLast? e)
    omega) n hn
  simp only[f0z];omega
theorem jww {l:List Blk} (h:∀ b∈l,b.instrs.length<=10000) (hl:l.length<=10000):∀ n∈jau l,n<=200020000:=fun n hn=>by
 have:=jwv l h [0] 0 (by simp) n hn
 omega
theorem j7u {i:Nat} {c:SV} (h:cells[i]?=some c):rdB (some (.arr cells ty)) i 1=some [c]:=by
 have hi:i<cells.length:=by
  rcases f0g i cells.length with h1 | h1
  .exact h1
  .rw [f0o h1] at h;cases h
 rw[f0a hi] at h
 rw[je4,jbz,f1d hi,Option.some.inj h]
 rfl
theorem qrz {h:Hp} {b:Nat} {ex:Bool} {l:List Nat} (hl:l≠[]) (hg:h.get b=some (.arr (l.map (fun(n:Nat)=>si (n:Int))) ty)):Sl h ty 1 ex EI (.slice b 0 l.length l.length ex 1) l [b] :=
 .inr ⟨hl,b,l.map (fun(n:Nat)=>[si (n:Int)]),[],rfl,by rw[j7l];exact hg,qbv l,rfl⟩
theorem jpz {F:Fns} {bx:Nat} {l:List Blk} (hlen:l.length<=10000) (hin:∀ b∈l,b.instrs.length<=10000) {x1:AV} :
 ∀ (rest done:List Blk) (_:done++rest=l) {hi:Hp} (_:Ok hi) {b:Nat} {ex:Bool} (_:1<=b/\b<hi.next) (_:hi.get b=some (.arr ((jau done).map (fun(n:Nat)=>si n)) 3)) {x2 x5:AV}
  (hQ:∀ hj b ex x2 x5,hj.get b=some (.arr ((jau l).map (fun(n:Nat)=>si n)) 3)->Q (.exit 0) (.mk [x0,x1,x2,.s (.slice b 0 (l.length+1) (l.length+1) ex 1),.s (jae ja0 l),x5,vi l.length,vi l.length,.s (.ptr bx 0)] hj)),
  W F jh1.loop (.mk [x0,x1,x2,.s (.slice b 0 (done.length+1) (done.length+1) ex 1),.s (jae ja0 l),x5,vi l.length,vi done.length,.s (.ptr bx 0)] hi) Q
 | [],done,hdn,hi,ok,b,ex,hb,hg,x2,x5,hQ=>by
  rw[f05] at hdn
  subst hdn
  rw[jaj]
  unfold jh1
  simp(disch:=first|omega|rfl) only[go_sem,f0u]
  exact hQ hi b ex _ _ hg
 | x::rest,done,hdn,hi,ok,b,ex,hb,hg,x2,x5,hQ=>by
  have hlt1:done.length<l.length:=by rw[←hdn];simp
  have hlt:(done.length:Int)<l.length:=by omega
  have hget:l[done.length]?=some x:=by rw[←hdn];simp
  have hx:=hin x (f0c hget)
  have hix:=jag (enc:=ja0) (size:=3) hget rfl
  have hdn':(done++[x])++rest=l:=by rw[←hdn];simp
  have hlen2:(done++[x]).length=done.length+1:=by simp
  have hsucc:((done.length:Int)+1)=(((done++[x]).length:Nat):Int):=by rw[hlen2];omega
  have hpos:=ok.pos
  have li:=jah (enc:=jdo) (l:=x.instrs)
  obtain⟨n,hn⟩:∃ n,(jau done).getLastD 0=n:=⟨_,rfl⟩
  have hlast:=jpy done
  rw[hn] at hlast
  have hnb:=jww (l:=done) (fun b hm=>hin b (by rw[←hdn];simp[hm])) (by omega) n (f0c hlast)
  obtain⟨hA,eA⟩:∃ hA,(hi.push (AB.arr [.nilSlice,.nilSlice,.nilSlice] 36)).put hi.next (some (.arr (ja0 x) 36))=hA:=⟨_,rfl⟩
  have okA:Ok hA:=by rw[←eA];exact jao (jaq ok)
  have nA:hA.next=hi.next+1:=by rw[←eA,Hp.next_put,Hp.next_push]
  have xA:hA.get hi.next=some (.arr (ja0 x) 36):=by rw[←eA,jai (jaq ok) hpos,if_pos rfl]
  have gA:∀ k,k<hi.next->hA.get k=hi.get k:=fun k hk=>by
   rw[←eA,jai (jaq ok) hpos,jal ok,if_neg (by omega),if_neg (by omega)]
  have bA:=(gA b hb.2).trans hg
  have hsl:((jau done).map (fun(n:Nat)=>si (n:Int))).length=done.length+1:=by rw[f1c,jey]
  have hrd:rdB (hA.get b) done.length 1=some [si (n:Nat)]:=by
   rw[bA]
   exact j7u (by rw[f1b,hlast];rfl)
  have hxi:=ja7 (size:=1) (b:=b) (off:=0) (len:=done.length+1) (mc:=done.length+1) (sz:=1) (ex:=ex) (m:=done.length) (by omega)
  rw[f0y,f3j] at hxi
  have hs1:((done.length+1:Nat):Int) - 1=(done.length:Int):=by omega
  obtain⟨q,hq⟩:∃ q,n+2+2*x.instrs.length=q:=⟨_,rfl⟩
  obtain⟨h2,e2,ok2,n2,g2,k2⟩:=qup (c:=si (q:Nat)) okA (by omega) bA hsl (by omega) (by omega) (ex:=ex)
  rw[nA,show done.length+1+1=(done++[x]).length+1 by rw[hlen2]] at e2
  rw[nA] at g2 n2
  have hsum:(n:Int)+2+2*(x.instrs.length:Int)=(q:Int):=by omega
  unfold ja0 at xA eA
  rw[jaj]
  unfold jh1
  simp(disch:=first|omega|rfl) only[go_sem,eq_true hlt,hix,ja0,eA,xA,hs1,hxi,hrd,li,jac,hsum,nA,e2,hsucc]
  have g2':h2.get (hi.next+1+1)=some (.arr ((jau (done++[x])).map (fun(n:Nat)=>si n)) 3):=by
   rw[jpx,hn,hq,List.map_append];exact g2
  exact jpz hlen hin rest (done++[x]) hdn' ok2 (by omega) g2' hQ
theorem j35 {h:Hp} (ok:Ok h) (hlen:f.blocks.length<=10000) (hin:∀ b∈f.blocks,b.instrs.length<=10000):WC F2 9 [.agg (jzj f)] h (fun v h'=>∃ d,jgm true h' d v=some (.s (jae jat (jau f.blocks)))):=by
 refine jba (no2 rfl rfl) qa8 rfl ?_
 unfold jv2
 have hpos:=ok.pos
 obtain⟨hA,eA⟩:∃ hA,h.push (AB.arr (jzj f) 26)=hA:=⟨_,rfl⟩
 have okA:Ok hA:=by rw[←eA];exact jaq ok
 have nA:hA.next=h.next+1:=by rw[←eA,Hp.next_push]
 have xA:hA.get h.next=some (.arr (jzj f) 26):=by rw[←eA,jal ok,if_pos rfl]
 obtain⟨hB,eB⟩:∃ hB,hA.push (AB.arr [.int .i64 0] 3)=hB:=⟨_,rfl⟩
 have okB:Ok hB:=by rw[←eB];exact jaq okA
 have nB:hB.next=h.next+2:=by rw[←eB,Hp.next_push,nA]
 have xB:hB.get h.next=some (.arr (jzj f) 26):=by rw[←eB,jal okA,if_neg (by omega)];exact xA
 have yB:hB.get (h.next+1)=some (.arr [.int .i64 0] 3):=by rw[←eB,jal okA,if_pos nA.symm]
 have ll:=jah (enc:=ja0) (l:=f.blocks)
 unfold jzj at xA xB eA
 simp(disch:=first|omega|rfl) only[go_sem,jzj,eA,nA,eB,xB,ll]
 refine jpz hlen hin f.blocks [] rfl okB (by omega) yB (fun hj b ex x2 x5 hg=>?_)
 simp(disch:=first|omega|rfl) only[go_sem]
 have s1:=qrz (ex:=ex) (jwu f.blocks) hg
 rw[jey] at s1
 exact⟨2,jaa.2 ⟨_,s1.frz (d:=1) (fun _ _ _ e=>EI.frz e) (fun _=>rfl),rfl⟩⟩
def S3 (f:FuncId):Bool:=Nat.beq f 7||(Nat.beq f 8||Nat.beq f 9)
noncomputable def F3:Fns:=PX S3 F2
theorem quq {A:Nat->Int}:Env Try.prog A tys F3:=jgb qum
theorem qg8 {h:Hp} {m:Nat×Nat} {l:List Pc} (m1:2<=m.1/\m.1<=10) (m2:2<=m.2/\m.2<=10) (pin:∀ q∈l,Pin q) (lx:LstE jb6 7 xl l):jcp F3 7 [.agg (qly m),.s xl] h=some (.agg (jzj (jeh m l)),h) :=
 jbh rfl (by show oif true (oif (grd xl) true false) false=true;rw[lx.grd];rfl) (qb0 jdx m1 m2 pin lx)
theorem j36 {h:Hp} {a b:Int} (ha:In6 a) (hb:In6 b):jcp F3 8 [vi a,vi b] h=some (.agg (qly (jqp a b)),h) :=
 jbh rfl rfl (jzq jdx ha hb)
theorem jwx {h:Hp} (hlen:f.blocks.length<=10000) (hin:∀ b∈f.blocks,b.instrs.length<=10000):jcp F3 9 [.agg (jzj f)] h=some (.s (jae jat (jau f.blocks)),h) :=
 jbh rfl (by obtain⟨v,b⟩:=f;cases v<;>cases b<;>rfl) (j35 jdx hlen hin)
theorem no3 {f:FuncId} (h1:S1 f=false) (h2:Nat.beq f jfs.f=false) (h3:S3 f=false) {vs:List AV} {h:Hp}:jcp F3 f vs h=none:=(jbf h3).trans (no2 h1 h2)
end Go.Proofs.Ytalbjjoppndjjaa.Ev
