/- Functions built of pieces: the pieces, one by one. -/
import Derived.Test.YthbghmhjgdonmaaMc6
namespace Go.Proofs.Ythbghmhjgdonmaa.Ev
open Go Go.RowKit Go.Proofs.Ythbghmhjgdonmaa.Ms
attribute [local go_sem] Int.reduceToNat reduceCtorEq Nat.reduceAdd Nat.reduceMul Nat.reduceEqDiff Int.reduceEq Int.reduceLT Int.reduceLE Int.reduceNeg Int.reduceAdd Int.reduceSub Int.reduceMul Int.reduceNe
attribute [local go_sem ↓] reduceIte
set_option linter.all false
set_option maxRecDepth 100000
set_option maxHeartbeats 2000000
variable {b:Int} {ms:List Nat} {l:List Pc} {row:List SV} {size:Nat} {xl:SV}
structure LstE {α:Type} (enc:α->List SV) (size:Nat) (x:SV) (l:List α):Prop where
 len:jri (.s x)=some (vi l.length)
 at_:∀ {i:Nat} {a:α},l[i]?=some a->ju7 size (.s x) (vi (i:Int))=some (.s (.cp (enc a)))
 grd:grd x=true
theorem LstE.enc {α:Type} {enc:α->List SV} {l:List α} (hs:∀ a,(enc a).length=size):LstE enc size (jae enc l) l:=⟨jah,fun h=>jai h (hs _),ja7⟩
theorem LstE.emp {α:Type} {enc:α->List SV}:LstE enc size (.lst []) []:=⟨rfl,fun h=>by simp at h,rfl⟩
theorem j01 {h0:Hp} {p:Nat} {ns:List Nat} {L:List (Nat×AB)} (hpos:1<=h0.next) (pin:∀ q∈l,Pin q) (lx:LstE jb1 7 xl l) {x0 x2 x12:AV} {Q:Ex->St->Prop} :
 ∀ (rest done:List Pc) (_:done++rest=l) (_:done.length<=24) {hi:Hp} {w:Ms} {ns':List Nat} (_:FS h0 hi p w ns L ns') (_:Wok w (100*done.length+10)) {x3 x4 x5 x6 x7 x8 x9:AV}
  (hQ:∀ hj ns'' x3 x4 x5 x6 x7 x8 x9 x10,FS h0 hj p ((rest.take (24 - done.length)).foldl jbr w) ns L ns''->Wok ((rest.take (24 - done.length)).foldl jbr w) 2500->Q (.exit 0) (.mk [x0,.s xl,x2,x3,x4,x5,x6,x7,x8,x9,x10,.s (.ptr p 0),x12] hj)),
  W F2 jh2.loop (.mk [x0,.s xl,x2,x3,x4,x5,x6,x7,x8,x9,vi done.length,.s (.ptr p 0),x12] hi) Q
 | [],done,hdn,h24,hi,w,ns',K,wk,x3,x4,x5,x6,x7,x8,x9,hQ=>by
  rw[f01] at hdn
  subst hdn
  rw[jag]
  unfold jh2
  have ll:=lx.len
  simp(disch:=first|omega|rfl) only[go_sem,ll,f0q]
  exact hQ hi ns' _ _ _ _ _ _ _ _ (by simpa using K) (by simpa using wk.le (by omega))
 | pc::rest,done,hdn,h24,hi,w,ns',K,wk,x3,x4,x5,x6,x7,x8,x9,hQ=>by
  have ll:=lx.len
  have hlt1:done.length<l.length:=by rw[←hdn];simp
  have hlt:(done.length:Int)<l.length:=by omega
  by_cases h9:(done.length:Int)<24
  .have hget:l[done.length]?=some pc:=by rw[←hdn];simp
   have pn:=pin pc (f0c hget)
   have hix:=lx.at_ hget
   have hdn':(done++[pc])++rest=l:=by rw[←hdn];simp
   have hlen2:(done++[pc]).length=done.length+1:=by simp
   have hsucc:((done.length:Int)+1)=(((done++[pc]).length:Nat):Int):=by rw[hlen2];omega
   have wkp:=wk.piece pc
   have fin:∀ hj ns'' x3 x4 x5 x6 x7 x8 x9,FS h0 hj p (jbr w pc) ns L ns''->W F2 jh2.loop (.mk [x0,.s xl,x2,x3,x4,x5,x6,x7,x8,x9,vi (done++[pc]).length,.s (.ptr p 0),x12] hj) Q:=fun hj ns'' y3 y4 y5 y6 y7 y8 y9 KJ=>by
    have e:24 - done.length=(24 - (done++[pc]).length)+1:=by rw[hlen2];omega
    refine j01 hpos pin lx rest (done++[pc]) hdn' (by rw[hlen2];omega) KJ (wkp.le (by rw[hlen2];omega)) (fun hj' ns3 z3 z4 z5 z6 z7 z8 z9 z10 KZ wkz=>hQ hj' ns3 z3 z4 z5 z6 z7 z8 z9 z10 ?_ ?_)
    .rw [e,List.take_succ_cons,f23];exact KZ
    .rw [e,List.take_succ_cons,f23];exact wkz
   rw[jag]
   have ok:=K.ok
   have K1:=(K.push (a:=.arr [.int .i64 0,.int .i64 0,.int .i64 0,.int .i64 0,.int .i64 0,.int .i64 0,.int .i64 0] 62)).put (a':=.arr (jb1 pc) 62) (fun r hr=>by have:=(K.kp r hr).2.2.1;omega) hpos
   obtain⟨hA,eA⟩:∃ hA,(hi.push (AB.arr [.int .i64 0,.int .i64 0,.int .i64 0,.int .i64 0,.int .i64 0,.int .i64 0,.int .i64 0] 62)).put hi.next (some (.arr (jb1 pc) 62))=hA:=⟨_,rfl⟩
   rw[eA] at K1
   have okA:=K1.ok
   have hxA:=(K1.kp _ (f07 ..)).1
   have hcur:=wk.cur
   have hnb:=wk.nb
   have hk6:=jem (n:=pc.kind) (m:=6) (by omega)
   obtain⟨bx,ebx⟩:∃ bx,hi.next=bx:=⟨_,rfl⟩
   rw[ebx] at K1 hxA eA
   have pe:=qbm w pc
   obtain⟨⟨q1,q2⟩,⟨q3,q4⟩,⟨q5,q6⟩,⟨q7,q8⟩,⟨q9,q10⟩,⟨q11,q12⟩,⟨q13,q14⟩⟩:=id pn
   unfold jb1 at hxA eA
   unfold jh2
   simp(disch:=first|omega|rfl) only[go_sem,ll,eq_true hlt,eq_true h9]
   unfold j0y
   simp(disch:=first|omega|rfl) only[go_sem,hix,jb1,ebx,eA]
   refine qho K1 hcur (by omega) ?_
   have drop:∀ r∈L,r∈(bx,AB.arr (jb1 pc) 62)::L:=fun r hr=>f0x _ hr
   by_cases hr:j0z w=true
   .by_cases hz:((pk pc.kind 6:Nat):Int)=0
    .have hp:jbr w pc=jfe w pc:=by rw[pe,if_pos ⟨by omega,hr⟩]
     simp(disch:=first|omega|rfl) only[go_sem,jff,jfg,jfh,jfi,jfj,jbs,jam,jak,ja8 jhi,hxA,hr,eq_true hz]
     refine WC.imp (qhn K1.ok K1.mr wk (by omega) pc pn) ?_
     rintro _ h2 ⟨rfl,ns2,m2,v2⟩
     have K2:=K1.step m2 v2
     simp(disch:=first|omega|rfl) only[go_sem,jad,hsucc]
     rw[←hp] at K2
     exact fin h2 ns2 _ _ _ _ _ _ _ (K2.sub drop)
    .by_cases ho:((pk pc.kind 6:Nat):Int)=1
     .have hp:jbr w pc=jgd w pc:=by rw[pe,if_neg (fun e=>hz (by omega)),if_pos ⟨by omega,hr⟩]
      simp(disch:=first|omega|rfl) only[go_sem,jff,jfg,jfh,jfi,jfj,jbs,jam,jak,ja8 jhi,hxA,hr,eq_false hz,eq_true ho]
      refine WC.imp (qbl K1.ok K1.mr wk (by omega) pc pn) ?_
      rintro _ h2 ⟨rfl,ns2,m2,v2⟩
      have K2:=K1.step m2 v2
      simp(disch:=first|omega|rfl) only[go_sem,jad,hsucc]
      rw[←hp] at K2
      exact fin h2 ns2 _ _ _ _ _ _ _ (K2.sub drop)
     .have n1:¬ (pk pc.kind 6=0/\j0z w=true):=fun e=>hz (by omega)
      have n2:¬ (pk pc.kind 6=1/\j0z w=true):=fun e=>ho (by omega)
      simp(disch:=first|omega|rfl) only[go_sem,jff,jfg,jfh,jfi,jfj,jbs,jam,jak,ja8 jhi,hxA,hr,eq_false hz,eq_false ho]
      refine jm8 K1 hcur ?_
      by_cases h2:jmw w=true
      .have hp:jbr w pc=jcf w pc:=by rw[pe,if_neg n1,if_neg n2,if_pos h2]
       rw[h2]
       simp(disch:=first|omega|rfl) only[go_sem,hxA]
       refine WC.imp (jif K1 wk (by omega) (pc:=pc) pn) ?_
       rintro _ h2 ⟨rfl,ns2,K2⟩
       simp(disch:=first|omega|rfl) only[go_sem,jad,hsucc]
       rw[←hp] at K2
       exact fin h2 ns2 _ _ _ _ _ _ _ (K2.sub drop)
      .have hp:jbr w pc=w:=by rw[pe,if_neg n1,if_neg n2,if_neg h2]
       have h2':jmw w=false:=by simpa using h2
       rw[h2']
       simp(disch:=first|omega|rfl) only[go_sem,jad,hsucc]
       have K1':=K1
       rw[←hp] at K1'
       exact fin hA ns' _ _ _ _ _ _ _ (K1'.sub drop)
   .have n1:¬ (pk pc.kind 6=0/\j0z w=true):=fun e=>hr e.2
    have n2:¬ (pk pc.kind 6=1/\j0z w=true):=fun e=>hr e.2
    have hr:j0z w=false:=by simpa using hr
    by_cases hz:((pk pc.kind 6:Nat):Int)=0
    .have ho:¬ ((pk pc.kind 6:Nat):Int)=1:=by omega
     simp(disch:=first|omega|rfl) only[go_sem,jff,jfg,jfh,jfi,jfj,jbs,jam,jak,ja8 jhi,hxA,hr,eq_true hz,eq_false ho,Int.reduceEq]
     refine jm8 K1 hcur ?_
     by_cases h2:jmw w=true
     .have hp:jbr w pc=jcf w pc:=by rw[pe,if_neg n1,if_neg n2,if_pos h2]
      rw[h2]
      simp(disch:=first|omega|rfl) only[go_sem,hxA]
      refine WC.imp (jif K1 wk (by omega) (pc:=pc) pn) ?_
      rintro _ h2 ⟨rfl,ns2,K2⟩
      simp(disch:=first|omega|rfl) only[go_sem,jad,hsucc]
      rw[←hp] at K2
      exact fin h2 ns2 _ _ _ _ _ _ _ (K2.sub drop)
     .have hp:jbr w pc=w:=by rw[pe,if_neg n1,if_neg n2,if_neg h2]
      have h2':jmw w=false:=by simpa using h2
      rw[h2']
      simp(disch:=first|omega|rfl) only[go_sem,jad,hsucc]
      have K1':=K1
      rw[←hp] at K1'
      exact fin hA ns' _ _ _ _ _ _ _ (K1'.sub drop)
    .by_cases ho:((pk pc.kind 6:Nat):Int)=1
     .skip
      simp(disch:=first|omega|rfl) only[go_sem,jff,jfg,jfh,jfi,jfj,jbs,jam,jak,ja8 jhi,hxA,hr,eq_false hz,eq_true ho]
      refine jm8 K1 hcur ?_
      by_cases h2:jmw w=true
      .have hp:jbr w pc=jcf w pc:=by rw[pe,if_neg n1,if_neg n2,if_pos h2]
       rw[h2]
       simp(disch:=first|omega|rfl) only[go_sem,hxA]
       refine WC.imp (jif K1 wk (by omega) (pc:=pc) pn) ?_
       rintro _ h2 ⟨rfl,ns2,K2⟩
       simp(disch:=first|omega|rfl) only[go_sem,jad,hsucc]
       rw[←hp] at K2
       exact fin h2 ns2 _ _ _ _ _ _ _ (K2.sub drop)
      .have hp:jbr w pc=w:=by rw[pe,if_neg n1,if_neg n2,if_neg h2]
       have h2':jmw w=false:=by simpa using h2
       rw[h2']
       simp(disch:=first|omega|rfl) only[go_sem,jad,hsucc]
       have K1':=K1
       rw[←hp] at K1'
       exact fin hA ns' _ _ _ _ _ _ _ (K1'.sub drop)
     .skip
      simp(disch:=first|omega|rfl) only[go_sem,jff,jfg,jfh,jfi,jfj,jbs,jam,jak,ja8 jhi,hxA,hr,eq_false hz,eq_false ho]
      refine jm8 K1 hcur ?_
      by_cases h2:jmw w=true
      .have hp:jbr w pc=jcf w pc:=by rw[pe,if_neg n1,if_neg n2,if_pos h2]
       rw[h2]
       simp(disch:=first|omega|rfl) only[go_sem,hxA]
       refine WC.imp (jif K1 wk (by omega) (pc:=pc) pn) ?_
       rintro _ h2 ⟨rfl,ns2,K2⟩
       simp(disch:=first|omega|rfl) only[go_sem,jad,hsucc]
       rw[←hp] at K2
       exact fin h2 ns2 _ _ _ _ _ _ _ (K2.sub drop)
      .have hp:jbr w pc=w:=by rw[pe,if_neg n1,if_neg n2,if_neg h2]
       have h2':jmw w=false:=by simpa using h2
       rw[h2']
       simp(disch:=first|omega|rfl) only[go_sem,jad,hsucc]
       have K1':=K1
       rw[←hp] at K1'
       exact fin hA ns' _ _ _ _ _ _ _ (K1'.sub drop)
  .have h24':24 - done.length=0:=by omega
   rw[jag]
   unfold jh2
   simp(disch:=first|omega|rfl) only[go_sem,ll,eq_true hlt,eq_false h9]
   exact hQ hi ns' _ _ _ _ _ _ _ _ (by rw[h24'];exact K) (by rw[h24'];exact wk.le (by omega))
section
variable {k:Bool} {h:Hp} {d:Nat}
theorem EI.frz {n:Nat} (e:EI row n ms):jf7 (jey k h (d+1)) row=some (jas n):=by
 obtain⟨rfl,rfl⟩:=e;rfl
theorem EO.frz {n:Ms.Opd} (e:EO row n ms):jf7 (jey k h (d+1)) row=some (jbg n):=by
 obtain⟨rfl,rfl⟩:=e;rfl
theorem ER.frz {n:Nat×Nat} (e:ER row n ms):jf7 (jey k h (d+1)) row=some (jc7 n):=by
 obtain⟨rfl,rfl⟩:=e;rfl
theorem EX.frz {x:Ms.Ins} (e:EX tt h row x ms):jf7 (jey k h (d+2)) row=some (jdx x):=by
 obtain⟨a,b,n1,n2,rfl,h1,h2,rfl⟩:=e
 exact jaq rfl (jaq (h1.frz (fun _ _ _ e=>EO.frz e) (fun _=>rfl)) (jaq (h2.frz (fun _ _ _ e=>ER.frz e) (fun _=>rfl)) rfl))
theorem EE.frz {x:Ms.Edg} (e:EE tt h row x ms):jf7 (jey k h (d+2)) row=some (jfu x):=by
 obtain⟨a,rfl,h1⟩:=e
 exact jaq rfl (jaq (h1.frz (fun _ _ _ e=>EI.frz e) (fun _=>rfl)) rfl)
theorem EB.frz {x:Ms.Blk} (e:EB tt h row x ms):jf7 (jey k h (d+3)) row=some (ja5 x):=by
 obtain⟨p,i,e,n1,n2,n3,rfl,h1,h2,h3,rfl⟩:=e
 exact jaq (h1.frz (fun _ _ _ e=>EI.frz e) (fun _=>rfl)) (jaq (h2.frz (fun _ _ _ e=>EX.frz e) (fun _=>rfl)) (jaq (h3.frz (fun _ _ _ e=>EE.frz e) (fun _=>rfl)) rfl))
theorem qbn {w:Ms} {a b:SV} {n1 n2:List Nat} (h1:Sl h tt.int 1 false EI a w.values n1) (h2:Sl h tt.blk 3 false (EB tt h) b w.blocks n2):jfr k h 4 (.agg [a,b])=some (.agg (qms ⟨w.values,w.blocks⟩)) :=
 jaa.2 ⟨_,jaq (h1.frz (fun _ _ _ e=>EI.frz e) (fun _=>rfl)) (jaq (h2.frz (fun _ _ _ e=>EB.frz e) (fun _=>rfl)) rfl),rfl⟩
end
theorem qbo {h:Hp} (ok:Ok h) {m:Nat×Nat} (m1:2<=m.1/\m.1<=10) (m2:2<=m.2/\m.2<=10) (pin:∀ q∈l,Pin q) (lx:LstE jb1 7 xl l):WC F2 7 [.agg [si m.1,si m.2],.s xl] h (fun v h'=>∃ d,jfr true h' d v=some (.agg (qms (jel m l)))):=by
 refine jax (no2 rfl rfl) qn7 rfl ?_
 unfold j60
 have hpos:=ok.pos
 obtain⟨hA,eA⟩:∃ hA,(h.push (AB.arr [si m.1,si m.2] 30)).push (AB.arr [.nilSlice,.nilSlice] 26)=hA:=⟨_,rfl⟩
 have okA:Ok hA:=by rw[←eA];exact ja4 (ja4 ok)
 have nA:hA.next=h.next+2:=by rw[←eA];rfl
 have xA:hA.get h.next=some (AB.arr [si m.1,si m.2] 30):=by rw[←eA,ja3 (ja4 ok),if_neg (by rw[Hp.next_push];omega),ja3 ok,if_pos rfl]
 have yA:hA.get (h.next+1)=some (AB.arr [.nilSlice,.nilSlice] 26):=by rw[←eA,ja3 (ja4 ok),if_pos (by rw[Hp.next_push])]
 obtain⟨hB,eB⟩:∃ hB,hA.push (AB.arr [si m.1,si m.2,.nilSlice,.nilSlice,.int .i64 0,.nilSlice,.int .i64 0] 59)=hB:=⟨_,rfl⟩
 have okB:Ok hB:=by rw[←eB];exact ja4 okA
 have nB:hB.next=h.next+3:=by rw[←eB,Hp.next_push,nA]
 have pB:hB.get (h.next+2)=some (AB.arr [si m.1,si m.2,.nilSlice,.nilSlice,.int .i64 0,.nilSlice,.int .i64 0] 59):=by rw[←eB,ja3 okA,if_pos nA.symm]
 have yB:hB.get (h.next+1)=some (AB.arr [.nilSlice,.nilSlice] 26):=by rw[←eB,ja3 okA,if_neg (by omega)];exact yA
 have mrB:MR tt hB (h.next+2) ⟨m,[],[],0,[],0⟩ [h.next+2]:=⟨⟨_,_,_,[],[],[],pB,Sl.nil,Sl.nil,Sl.nil,rfl⟩,by simp,fun n hn=>by simp at hn;omega⟩
 simp(disch:=first|omega|rfl) only[go_sem,eA,xA,nA,eB]
 refine WC.imp (jt0 okB mrB (N:=10) (by simp) (by simp) (by omega) (cs:=[]) (nsx:=[]) Sl.nil (by simp) (by simp) (by simp)) ?_
 rintro _ h1 ⟨rfl,ns1,mr1,mv1⟩
 have K1:FS hB h1 (h.next+2) (jbn m) [h.next+2] [] ns1:=⟨mv1.ok,mr1,mv1,by simp⟩
 have wk1:Wok (jbn m) 10:=⟨m1,m2,by simp[jbn],by simp[jbn],by simp[jbn],by simp[jbn],by simp[jbn],by simp[jbn],by simp[jbn],by simp[jbn]⟩
 simp(disch:=first|omega|rfl) only[go_sem]
 refine j01 (by omega) pin lx l [] rfl (by simp) K1 (wk1.le (by simp)) ?_
 intro h2 ns2 x3 x4 x5 x6 x7 x8 x9 x10 K2 wk2
 have e24:24 - ([]:List Pc).length=24:=rfl
 rw[e24] at K2 wk2
 have ok2:=K2.ok
 simp(disch:=first|omega|rfl) only[go_sem]
 refine WC.imp (jif K2 wk2 (by omega) (pc:=⟨0,0,1,0,0,0,3⟩) ⟨by decide,by decide,by decide,by decide,by decide,by decide,by decide⟩) ?_
 rintro _ h3 ⟨rfl,ns3,K3⟩
 have y3:h3.get (h.next+1)=_:=(K3.mv.keep (h.next+1) (by omega) (by simp)).trans yB
 have ok3:=K3.ok
 obtain⟨⟨a,b,c,n1,n2,n3,hg,hv,hb,hk,e⟩,hd,hlt⟩:=K3.mr
 simp(disch:=first|omega|rfl) only[go_sem,hg,y3]
 refine⟨4,?_⟩
 have kp:∀ n∈n1++n2,(h3.put (h.next+1) (some (AB.arr [a,b] 26))).get n=h3.get n:=fun n hn=>by
  rw[jaj ok3 (by omega),if_neg (fun e2=>?_)]
  have hm:n∈ns3:=by rw[e];rcases f0d.1 hn with h | h<;>simp[h]
  rcases K3.mv.new n hm with h4 | h4
  .simp at h4;omega
  .omega
 exact qbn (w:=jcf ((l.take 24).foldl jbr (jbn m)) ⟨0,0,1,0,0,0,3⟩) (hv.keep (fun n hn=>kp n (by simp[hn]))) (hb.imp (fun n hn=>kp n (by simp[hn])) (fun row a ms hm k=>k.keep (fun n hn=>kp n (by simp[hm n hn]))))
def jt6 (a b:Int):Nat×Nat:=(2+pk a 9,2+pk b 9)
def qmt (m:Nat×Nat):List SV:=[si m.1,si m.2]
def In6 (a:Int):Prop:=-9223372036854775808<=a/\a<=9223372036854775807
theorem qhp (a b:Int):(2<=(jt6 a b).1/\(jt6 a b).1<=10)/\(2<=(jt6 a b).2/\(jt6 a b).2<=10):=by
 have h1:=jem (n:=a) (m:=9) (by omega)
 have h2:=jem (n:=b) (m:=9) (by omega)
 unfold jt6;simp only;omega
theorem jy7 {h:Hp} (ok:Ok h) {a:Int} (ha:In6 a) (hb:In6 b):WC F2 8 [vi a,vi b] h (fun v h'=>∃ d,jfr true h' d v=some (.agg (qmt (jt6 a b)))):=by
 refine jax (no2 rfl rfl) j5e rfl ?_
 unfold jrd
 have hpos:=ok.pos
 obtain⟨a1,a2⟩:=ha
 obtain⟨b1,b2⟩:=hb
 have h1:=jem (n:=a) (m:=9) (by omega)
 have h2:=jem (n:=b) (m:=9) (by omega)
 have e1:2+((pk a 9:Nat):Int)=((2+pk a 9:Nat):Int):=by omega
 have e2:2+((pk b 9:Nat):Int)=((2+pk b 9:Nat):Int):=by omega
 simp(disch:=first|omega|rfl) only[go_sem,jff,jfg,jfh,jfi,jfj,jbs,jam,jak,ja8 jhi,jad,e1,e2]
 exact⟨1,rfl⟩
theorem jrr {cells:List SV} {ty i:Nat} {c:SV} (h:cells[i]?=some c):rdB (some (.arr cells ty)) i 1=some [c]:=by
 have hi:i<cells.length:=by
  rcases f0k i cells.length with h1 | h1
  .exact h1
  .rw [f0r h1] at h;cases h
 rw[f0b hi] at h
 rw[jfx,jb3,f08 hi,Option.some.inj h]
 rfl
def S3 (f:FuncId):Bool:=Nat.beq f 7||(Nat.beq f 8||Nat.beq f 9)
noncomputable def F3:Fns:=PX S3 F2
theorem qvk {A:Nat->Int}:Env Try.prog A tys F3:=je1 qvi
theorem qhq {h:Hp} {m:Nat×Nat} (m1:2<=m.1/\m.1<=10) (m2:2<=m.2/\m.2<=10) (pin:∀ q∈l,Pin q) (lx:LstE jb1 7 xl l):jcw F3 7 [.agg (qmt m),.s xl] h=some (.agg (qms (jel m l)),h) :=
 jbe rfl (by show oif true (oif (grd xl) true false) false=true;rw[lx.grd];rfl) (qbo jds m1 m2 pin lx)
theorem j3j {h:Hp} {a:Int} (ha:In6 a) (hb:In6 b):jcw F3 8 [vi a,vi b] h=some (.agg (qmt (jt6 a b)),h) :=
 jbe rfl rfl (jy7 jds ha hb)
theorem no3 {f:FuncId} (h1:S1 f=false) (h2:Nat.beq f jgf.f=false) (h3:S3 f=false) {vs:List AV} {h:Hp}:jcw F3 f vs h=none:=(jay h3).trans (no2 h1 h2)
end Go.Proofs.Ythbghmhjgdonmaa.Ev
