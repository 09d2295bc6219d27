/- Functions built of pieces: the pieces, one by one. -/
import Derived.Test.YtdbklpgagdbpiaaDoorMc6
namespace Go.Proofs.YtdbklpgagdbpiaaDoor.Ev
open Go Go.RowKit Go.Proofs.YtdbklpgagdbpiaaDoor.Ms
attribute [local go_sem] Int.reduceToNat reduceCtorEq Nat.reduceAdd Nat.reduceMul Nat.reduceEqDiff Int.reduceEq Int.reduceLT Int.reduceLE Int.reduceNeg Int.reduceAdd Int.reduceSub Int.reduceMul Int.reduceNe
attribute [local go_sem ↓] reduceIte
set_option linter.all false
set_option maxRecDepth 100000
set_option maxHeartbeats 2000000
variable {b:Int} {ms:List Nat} {l:List Pc} {row:List SV} {size:Nat} {xl:SV}
structure LstE {α:Type} (enc:α->List SV) (size:Nat) (x:SV) (l:List α):Prop where
 len:j0b (.s x)=some (vi l.length)
 at_:∀ {i:Nat} {a:α},l[i]?=some a->jza size (.s x) (vi (i:Int))=some (.s (.cp (enc a)))
 grd:grd x=true
theorem LstE.enc {α:Type} {enc:α->List SV} {l:List α} (hs:∀ a,(enc a).length=size):LstE enc size (jae enc l) l:=⟨jag,fun h=>jah h (hs _),jbb⟩
theorem LstE.emp {α:Type} {enc:α->List SV}:LstE enc size (.lst []) []:=⟨rfl,fun h=>by simp at h,rfl⟩
theorem j3n {h0:Hp} {p:Nat} {ns:List Nat} {L:List (Nat×AB)} (hpos:1<=h0.next) (pin:∀ q∈l,Pin q) (lx:LstE jce 7 xl l) {x0 x2 x12:AV} {Q:Ex->St->Prop} :
 ∀ (rest done:List Pc) (_:done++rest=l) (_:done.length<=24) {hi:Hp} {w:Ms} {ns':List Nat} (_:FS h0 hi p w ns L ns') (_:Wok w (100*done.length+10)) {x3 x4 x5 x6 x7 x8 x9:AV}
  (hQ:∀ hj ns'' x3 x4 x5 x6 x7 x8 x9 x10,FS h0 hj p ((rest.take (24 - done.length)).foldl jbz w) ns L ns''->Wok ((rest.take (24 - done.length)).foldl jbz w) 2500->Q (.exit 0) (.mk [x0,.s xl,x2,x3,x4,x5,x6,x7,x8,x9,x10,.s (.ptr p 0),x12] hj)),
  W F2 ji3.loop (.mk [x0,.s xl,x2,x3,x4,x5,x6,x7,x8,x9,vi done.length,.s (.ptr p 0),x12] hi) Q
 | [],done,hdn,h24,hi,w,ns',K,wk,x3,x4,x5,x6,x7,x8,x9,hQ=>by
  rw[f1c] at hdn
  subst hdn
  rw[jaj]
  unfold ji3
  have ll:=lx.len
  simp(disch:=first|omega|rfl) only[go_sem,ll,f0s]
  exact hQ hi ns' _ _ _ _ _ _ _ _ (by simpa using K) (by simpa using wk.le (by omega))
 | pc::rest,done,hdn,h24,hi,w,ns',K,wk,x3,x4,x5,x6,x7,x8,x9,hQ=>by
  have ll:=lx.len
  have hlt1:done.length<l.length:=by rw[←hdn];simp
  have hlt:(done.length:Int)<l.length:=by omega
  by_cases h9:(done.length:Int)<24
  .have hget:l[done.length]?=some pc:=by rw[←hdn];simp
   have pn:=pin pc (f0c hget)
   have hix:=lx.at_ hget
   have hdn':(done++[pc])++rest=l:=by rw[←hdn];simp
   have hlen2:(done++[pc]).length=done.length+1:=by simp
   have hsucc:((done.length:Int)+1)=(((done++[pc]).length:Nat):Int):=by rw[hlen2];omega
   have wkp:=wk.piece pc
   have fin:∀ hj ns'' x3 x4 x5 x6 x7 x8 x9,FS h0 hj p (jbz w pc) ns L ns''->W F2 ji3.loop (.mk [x0,.s xl,x2,x3,x4,x5,x6,x7,x8,x9,vi (done++[pc]).length,.s (.ptr p 0),x12] hj) Q:=fun hj ns'' y3 y4 y5 y6 y7 y8 y9 KJ=>by
    have e:24 - done.length=(24 - (done++[pc]).length)+1:=by rw[hlen2];omega
    refine j3n hpos pin lx rest (done++[pc]) hdn' (by rw[hlen2];omega) KJ (wkp.le (by rw[hlen2];omega)) (fun hj' ns3 z3 z4 z5 z6 z7 z8 z9 z10 KZ wkz=>hQ hj' ns3 z3 z4 z5 z6 z7 z8 z9 z10 ?_ ?_)
    .rw [e,List.take_succ_cons,f23];exact KZ
    .rw [e,List.take_succ_cons,f23];exact wkz
   rw[jaj]
   have ok:=K.ok
   have K1:=(K.push (a:=.arr [.int .i64 0,.int .i64 0,.int .i64 0,.int .i64 0,.int .i64 0,.int .i64 0,.int .i64 0] 69)).put (a':=.arr (jce pc) 69) (fun r hr=>by have:=(K.kp r hr).2.2.1;omega) hpos
   obtain⟨hA,eA⟩:∃ hA,(hi.push (AB.arr [.int .i64 0,.int .i64 0,.int .i64 0,.int .i64 0,.int .i64 0,.int .i64 0,.int .i64 0] 69)).put hi.next (some (.arr (jce pc) 69))=hA:=⟨_,rfl⟩
   rw[eA] at K1
   have okA:=K1.ok
   have hxA:=(K1.kp _ (f07 ..)).1
   have hcur:=wk.cur
   have hnb:=wk.nb
   have hk6:=jgo (n:=pc.kind) (m:=6) (by omega)
   obtain⟨bx,ebx⟩:∃ bx,hi.next=bx:=⟨_,rfl⟩
   rw[ebx] at K1 hxA eA
   have pe:=qd2 w pc
   obtain⟨⟨q1,q2⟩,⟨q3,q4⟩,⟨q5,q6⟩,⟨q7,q8⟩,⟨q9,q10⟩,⟨q11,q12⟩,⟨q13,q14⟩⟩:=id pn
   unfold jce at hxA eA
   unfold ji3
   simp(disch:=first|omega|rfl) only[go_sem,ll,eq_true hlt,eq_true h9]
   unfold j3k
   simp(disch:=first|omega|rfl) only[go_sem,hix,jce,ebx,eA]
   refine qjy K1 hcur (by omega) ?_
   have drop:∀ r∈L,r∈(bx,AB.arr (jce pc) 69)::L:=fun r hr=>f04 _ hr
   by_cases hr:j3l w=true
   .by_cases hz:((pk pc.kind 6:Nat):Int)=0
    .have hp:jbz w pc=jf0 w pc:=by rw[pe,if_pos ⟨by omega,hr⟩]
     simp(disch:=first|omega|rfl) only[go_sem,jf1,jf2,jf3,jf4,jf5,jb5,jam,jai,jba jio,hxA,hr,eq_true hz]
     refine WC.imp (qjx K1.ok K1.mr wk (by omega) pc pn) ?_
     rintro _ h2 ⟨rfl,ns2,m2,v2⟩
     have K2:=K1.step m2 v2
     simp(disch:=first|omega|rfl) only[go_sem,jad,hsucc]
     rw[←hp] at K2
     exact fin h2 ns2 _ _ _ _ _ _ _ (K2.sub drop)
    .by_cases ho:((pk pc.kind 6:Nat):Int)=1
     .have hp:jbz w pc=jg5 w pc:=by rw[pe,if_neg (fun e=>hz (by omega)),if_pos ⟨by omega,hr⟩]
      simp(disch:=first|omega|rfl) only[go_sem,jf1,jf2,jf3,jf4,jf5,jb5,jam,jai,jba jio,hxA,hr,eq_false hz,eq_true ho]
      refine WC.imp (qd1 K1.ok K1.mr wk (by omega) pc pn) ?_
      rintro _ h2 ⟨rfl,ns2,m2,v2⟩
      have K2:=K1.step m2 v2
      simp(disch:=first|omega|rfl) only[go_sem,jad,hsucc]
      rw[←hp] at K2
      exact fin h2 ns2 _ _ _ _ _ _ _ (K2.sub drop)
     .have n1:¬ (pk pc.kind 6=0/\j3l w=true):=fun e=>hz (by omega)
      have n2:¬ (pk pc.kind 6=1/\j3l w=true):=fun e=>ho (by omega)
      simp(disch:=first|omega|rfl) only[go_sem,jf1,jf2,jf3,jf4,jf5,jb5,jam,jai,jba jio,hxA,hr,eq_false hz,eq_false ho]
      refine jod K1 hcur ?_
      by_cases h2:jn1 w=true
      .have hp:jbz w pc=jcu w pc:=by rw[pe,if_neg n1,if_neg n2,if_pos h2]
       rw[h2]
       simp(disch:=first|omega|rfl) only[go_sem,hxA]
       refine WC.imp (jje K1 wk (by omega) (pc:=pc) pn) ?_
       rintro _ h2 ⟨rfl,ns2,K2⟩
       simp(disch:=first|omega|rfl) only[go_sem,jad,hsucc]
       rw[←hp] at K2
       exact fin h2 ns2 _ _ _ _ _ _ _ (K2.sub drop)
      .have hp:jbz w pc=w:=by rw[pe,if_neg n1,if_neg n2,if_neg h2]
       have h2':jn1 w=false:=by simpa using h2
       rw[h2']
       simp(disch:=first|omega|rfl) only[go_sem,jad,hsucc]
       have K1':=K1
       rw[←hp] at K1'
       exact fin hA ns' _ _ _ _ _ _ _ (K1'.sub drop)
   .have n1:¬ (pk pc.kind 6=0/\j3l w=true):=fun e=>hr e.2
    have n2:¬ (pk pc.kind 6=1/\j3l w=true):=fun e=>hr e.2
    have hr:j3l w=false:=by simpa using hr
    by_cases hz:((pk pc.kind 6:Nat):Int)=0
    .have ho:¬ ((pk pc.kind 6:Nat):Int)=1:=by omega
     simp(disch:=first|omega|rfl) only[go_sem,jf1,jf2,jf3,jf4,jf5,jb5,jam,jai,jba jio,hxA,hr,eq_true hz,eq_false ho,Int.reduceEq]
     refine jod K1 hcur ?_
     by_cases h2:jn1 w=true
     .have hp:jbz w pc=jcu w pc:=by rw[pe,if_neg n1,if_neg n2,if_pos h2]
      rw[h2]
      simp(disch:=first|omega|rfl) only[go_sem,hxA]
      refine WC.imp (jje K1 wk (by omega) (pc:=pc) pn) ?_
      rintro _ h2 ⟨rfl,ns2,K2⟩
      simp(disch:=first|omega|rfl) only[go_sem,jad,hsucc]
      rw[←hp] at K2
      exact fin h2 ns2 _ _ _ _ _ _ _ (K2.sub drop)
     .have hp:jbz w pc=w:=by rw[pe,if_neg n1,if_neg n2,if_neg h2]
      have h2':jn1 w=false:=by simpa using h2
      rw[h2']
      simp(disch:=first|omega|rfl) only[go_sem,jad,hsucc]
      have K1':=K1
      rw[←hp] at K1'
      exact fin hA ns' _ _ _ _ _ _ _ (K1'.sub drop)
    .by_cases ho:((pk pc.kind 6:Nat):Int)=1
     .skip
      simp(disch:=first|omega|rfl) only[go_sem,jf1,jf2,jf3,jf4,jf5,jb5,jam,jai,jba jio,hxA,hr,eq_false hz,eq_true ho]
      refine jod K1 hcur ?_
      by_cases h2:jn1 w=true
      .have hp:jbz w pc=jcu w pc:=by rw[pe,if_neg n1,if_neg n2,if_pos h2]
       rw[h2]
       simp(disch:=first|omega|rfl) only[go_sem,hxA]
       refine WC.imp (jje K1 wk (by omega) (pc:=pc) pn) ?_
       rintro _ h2 ⟨rfl,ns2,K2⟩
       simp(disch:=first|omega|rfl) only[go_sem,jad,hsucc]
       rw[←hp] at K2
       exact fin h2 ns2 _ _ _ _ _ _ _ (K2.sub drop)
      .have hp:jbz w pc=w:=by rw[pe,if_neg n1,if_neg n2,if_neg h2]
       have h2':jn1 w=false:=by simpa using h2
       rw[h2']
       simp(disch:=first|omega|rfl) only[go_sem,jad,hsucc]
       have K1':=K1
       rw[←hp] at K1'
       exact fin hA ns' _ _ _ _ _ _ _ (K1'.sub drop)
     .skip
      simp(disch:=first|omega|rfl) only[go_sem,jf1,jf2,jf3,jf4,jf5,jb5,jam,jai,jba jio,hxA,hr,eq_false hz,eq_false ho]
      refine jod K1 hcur ?_
      by_cases h2:jn1 w=true
      .have hp:jbz w pc=jcu w pc:=by rw[pe,if_neg n1,if_neg n2,if_pos h2]
       rw[h2]
       simp(disch:=first|omega|rfl) only[go_sem,hxA]
       refine WC.imp (jje K1 wk (by omega) (pc:=pc) pn) ?_
       rintro _ h2 ⟨rfl,ns2,K2⟩
       simp(disch:=first|omega|rfl) only[go_sem,jad,hsucc]
       rw[←hp] at K2
       exact fin h2 ns2 _ _ _ _ _ _ _ (K2.sub drop)
      .have hp:jbz w pc=w:=by rw[pe,if_neg n1,if_neg n2,if_neg h2]
       have h2':jn1 w=false:=by simpa using h2
       rw[h2']
       simp(disch:=first|omega|rfl) only[go_sem,jad,hsucc]
       have K1':=K1
       rw[←hp] at K1'
       exact fin hA ns' _ _ _ _ _ _ _ (K1'.sub drop)
  .have h24':24 - done.length=0:=by omega
   rw[jaj]
   unfold ji3
   simp(disch:=first|omega|rfl) only[go_sem,ll,eq_true hlt,eq_false h9]
   exact hQ hi ns' _ _ _ _ _ _ _ _ (by rw[h24'];exact K) (by rw[h24'];exact wk.le (by omega))
section
variable {k:Bool} {h:Hp} {d:Nat}
theorem EI.frz {n:Nat} (e:EI row n ms):jjl (jlt k h (d+1)) row=some (jaz n):=by
 obtain⟨rfl,rfl⟩:=e;rfl
theorem EO.frz {n:Ms.Opd} (e:EO row n ms):jjl (jlt k h (d+1)) row=some (jbi n):=by
 obtain⟨rfl,rfl⟩:=e;rfl
theorem ER.frz {n:Nat×Nat} (e:ER row n ms):jjl (jlt k h (d+1)) row=some (jds n):=by
 obtain⟨rfl,rfl⟩:=e;rfl
theorem EX.frz {x:Ms.Ins} (e:EX tt h row x ms):jjl (jlt k h (d+2)) row=some (jel x):=by
 obtain⟨a,b,n1,n2,rfl,h1,h2,rfl⟩:=e
 exact jdj rfl (jdj (h1.frz (fun _ _ _ e=>EO.frz e) (fun _=>rfl)) (jdj (h2.frz (fun _ _ _ e=>ER.frz e) (fun _=>rfl)) rfl))
theorem EE.frz {x:Ms.Edg} (e:EE tt h row x ms):jjl (jlt k h (d+2)) row=some (jgf x):=by
 obtain⟨a,rfl,h1⟩:=e
 exact jdj rfl (jdj (h1.frz (fun _ _ _ e=>EI.frz e) (fun _=>rfl)) rfl)
theorem EB.frz {x:Ms.Blk} (e:EB tt h row x ms):jjl (jlt k h (d+3)) row=some (ja3 x):=by
 obtain⟨p,i,e,n1,n2,n3,rfl,h1,h2,h3,rfl⟩:=e
 exact jdj (h1.frz (fun _ _ _ e=>EI.frz e) (fun _=>rfl)) (jdj (h2.frz (fun _ _ _ e=>EX.frz e) (fun _=>rfl)) (jdj (h3.frz (fun _ _ _ e=>EE.frz e) (fun _=>rfl)) rfl))
theorem qd3 {w:Ms} {a b:SV} {n1 n2:List Nat} (h1:Sl h tt.int 1 false EI a w.values n1) (h2:Sl h tt.blk 3 false (EB tt h) b w.blocks n2):jhz k h 4 (.agg [a,b])=some (.agg (qpv ⟨w.values,w.blocks⟩)) :=
 jaa.2 ⟨_,jdj (h1.frz (fun _ _ _ e=>EI.frz e) (fun _=>rfl)) (jdj (h2.frz (fun _ _ _ e=>EB.frz e) (fun _=>rfl)) rfl),rfl⟩
end
theorem qd4 {h:Hp} (ok:Ok h) {m:Nat×Nat} (m1:2<=m.1/\m.1<=10) (m2:2<=m.2/\m.2<=10) (pin:∀ q∈l,Pin q) (lx:LstE jce 7 xl l):WC F2 7 [.agg [si m.1,si m.2],.s xl] h (fun v h'=>∃ d,jhz true h' d v=some (.agg (qpv (jct m l)))):=by
 refine ja9 (no2 rfl rfl) qp9 rfl ?_
 unfold j9o
 have hpos:=ok.pos
 obtain⟨hA,eA⟩:∃ hA,(h.push (AB.arr [si m.1,si m.2] 25)).push (AB.arr [.nilSlice,.nilSlice] 29)=hA:=⟨_,rfl⟩
 have okA:Ok hA:=by rw[←eA];exact ja4 (ja4 ok)
 have nA:hA.next=h.next+2:=by rw[←eA];rfl
 have xA:hA.get h.next=some (AB.arr [si m.1,si m.2] 25):=by rw[←eA,ja6 (ja4 ok),if_neg (by rw[Hp.next_push];omega),ja6 ok,if_pos rfl]
 have yA:hA.get (h.next+1)=some (AB.arr [.nilSlice,.nilSlice] 29):=by rw[←eA,ja6 (ja4 ok),if_pos (by rw[Hp.next_push])]
 obtain⟨hB,eB⟩:∃ hB,hA.push (AB.arr [si m.1,si m.2,.nilSlice,.nilSlice,.int .i64 0,.nilSlice,.int .i64 0] 66)=hB:=⟨_,rfl⟩
 have okB:Ok hB:=by rw[←eB];exact ja4 okA
 have nB:hB.next=h.next+3:=by rw[←eB,Hp.next_push,nA]
 have pB:hB.get (h.next+2)=some (AB.arr [si m.1,si m.2,.nilSlice,.nilSlice,.int .i64 0,.nilSlice,.int .i64 0] 66):=by rw[←eB,ja6 okA,if_pos nA.symm]
 have yB:hB.get (h.next+1)=some (AB.arr [.nilSlice,.nilSlice] 29):=by rw[←eB,ja6 okA,if_neg (by omega)];exact yA
 have mrB:MR tt hB (h.next+2) ⟨m,[],[],0,[],0⟩ [h.next+2]:=⟨⟨_,_,_,[],[],[],pB,Sl.nil,Sl.nil,Sl.nil,rfl⟩,by simp,fun n hn=>by simp at hn;omega⟩
 simp(disch:=first|omega|rfl) only[go_sem,eA,xA,nA,eB]
 refine WC.imp (jvs okB mrB (N:=10) (by simp) (by simp) (by omega) (cs:=[]) (nsx:=[]) Sl.nil (by simp) (by simp) (by simp)) ?_
 rintro _ h1 ⟨rfl,ns1,mr1,mv1⟩
 have K1:FS hB h1 (h.next+2) (jbu m) [h.next+2] [] ns1:=⟨mv1.ok,mr1,mv1,by simp⟩
 have wk1:Wok (jbu m) 10:=⟨m1,m2,by simp[jbu],by simp[jbu],by simp[jbu],by simp[jbu],by simp[jbu],by simp[jbu],by simp[jbu],by simp[jbu]⟩
 simp(disch:=first|omega|rfl) only[go_sem]
 refine j3n (by omega) pin lx l [] rfl (by simp) K1 (wk1.le (by simp)) ?_
 intro h2 ns2 x3 x4 x5 x6 x7 x8 x9 x10 K2 wk2
 have e24:24 - ([]:List Pc).length=24:=rfl
 rw[e24] at K2 wk2
 have ok2:=K2.ok
 simp(disch:=first|omega|rfl) only[go_sem]
 refine WC.imp (jje K2 wk2 (by omega) (pc:=⟨0,0,1,0,0,0,3⟩) ⟨by decide,by decide,by decide,by decide,by decide,by decide,by decide⟩) ?_
 rintro _ h3 ⟨rfl,ns3,K3⟩
 have y3:h3.get (h.next+1)=_:=(K3.mv.keep (h.next+1) (by omega) (by simp)).trans yB
 have ok3:=K3.ok
 obtain⟨⟨a,b,c,n1,n2,n3,hg,hv,hb,hk,e⟩,hd,hlt⟩:=K3.mr
 simp(disch:=first|omega|rfl) only[go_sem,hg,y3]
 refine⟨4,?_⟩
 have kp:∀ n∈n1++n2,(h3.put (h.next+1) (some (AB.arr [a,b] 29))).get n=h3.get n:=fun n hn=>by
  rw[jak ok3 (by omega),if_neg (fun e2=>?_)]
  have hm:n∈ns3:=by rw[e];rcases f0e.1 hn with h | h<;>simp[h]
  rcases K3.mv.new n hm with h4 | h4
  .simp at h4;omega
  .omega
 exact qd3 (w:=jcu ((l.take 24).foldl jbz (jbu m)) ⟨0,0,1,0,0,0,3⟩) (hv.keep (fun n hn=>kp n (by simp[hn]))) (hb.imp (fun n hn=>kp n (by simp[hn])) (fun row a ms hm k=>k.keep (fun n hn=>kp n (by simp[hm n hn]))))
def jm9 (a b:Int):Nat×Nat:=(2+pk a 9,2+pk b 9)
def qqa (m:Nat×Nat):List SV:=[si m.1,si m.2]
def In6 (a:Int):Prop:=-9223372036854775808<=a/\a<=9223372036854775807
theorem j9r (a b:Int):(2<=(jm9 a b).1/\(jm9 a b).1<=10)/\(2<=(jm9 a b).2/\(jm9 a b).2<=10):=by
 have h1:=jgo (n:=a) (m:=9) (by omega)
 have h2:=jgo (n:=b) (m:=9) (by omega)
 unfold jm9;simp only;omega
theorem j1m {h:Hp} (ok:Ok h) {a:Int} (ha:In6 a) (hb:In6 b):WC F2 6 [vi a,vi b] h (fun v h'=>∃ d,jhz true h' d v=some (.agg (qqa (jm9 a b)))):=by
 refine ja9 (no2 rfl rfl) j9c rfl ?_
 unfold js0
 have hpos:=ok.pos
 obtain⟨a1,a2⟩:=ha
 obtain⟨b1,b2⟩:=hb
 have h1:=jgo (n:=a) (m:=9) (by omega)
 have h2:=jgo (n:=b) (m:=9) (by omega)
 have e1:2+((pk a 9:Nat):Int)=((2+pk a 9:Nat):Int):=by omega
 have e2:2+((pk b 9:Nat):Int)=((2+pk b 9:Nat):Int):=by omega
 simp(disch:=first|omega|rfl) only[go_sem,jf1,jf2,jf3,jf4,jf5,jb5,jam,jai,jba jio,jad,e1,e2]
 exact⟨1,rfl⟩
theorem j9s {cells:List SV} {ty i:Nat} {c:SV} (h:cells[i]?=some c):rdB (some (.arr cells ty)) i 1=some [c]:=by
 have hi:i<cells.length:=by
  rcases f0h i cells.length with h1 | h1
  .exact h1
  .rw [f0p h1] at h;cases h
 rw[f0b hi] at h
 rw[jgm,jb8,f08 hi,Option.some.inj h]
 rfl
def S3 (f:FuncId):Bool:=Nat.beq f 7||(Nat.beq f 6||Nat.beq f 999999)
noncomputable def F3:Fns:=PX S3 F2
theorem qw6 {A:Nat->Int}:Env Tryd.prog A tys F3:=jhx qw4
theorem qjz {h:Hp} {m:Nat×Nat} (m1:2<=m.1/\m.1<=10) (m2:2<=m.2/\m.2<=10) (pin:∀ q∈l,Pin q) (lx:LstE jce 7 xl l):jdx F3 7 [.agg (qqa m),.s xl] h=some (.agg (qpv (jct m l)),h) :=
 jbm rfl (by show oif true (oif (grd xl) true false) false=true;rw[lx.grd];rfl) (qd4 jex m1 m2 pin lx)
theorem j50 {h:Hp} {a:Int} (ha:In6 a) (hb:In6 b):jdx F3 6 [vi a,vi b] h=some (.agg (qqa (jm9 a b)),h) :=
 jbm rfl rfl (j1m jex ha hb)
theorem no3 {f:FuncId} (h1:S1 f=false) (h2:Nat.beq f jg9.f=false) (h3:S3 f=false) {vs:List AV} {h:Hp}:jdx F3 f vs h=none:=(jbk h3).trans (no2 h1 h2)
end Go.Proofs.YtdbklpgagdbpiaaDoor.Ev
