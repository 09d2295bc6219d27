/- The builders of functions: a loop. -/
import Derived.Test.YtdbklpgagdbpiaaDoorMc4
namespace Go.Proofs.YtdbklpgagdbpiaaDoor.Ev
open Go Go.RowKit Go.Proofs.YtdbklpgagdbpiaaDoor.Ms
attribute [local go_sem] Int.reduceToNat reduceCtorEq Nat.reduceAdd Nat.reduceMul Nat.reduceEqDiff Int.reduceEq Int.reduceLT Int.reduceLE Int.reduceNeg Int.reduceAdd Int.reduceSub Int.reduceMul Int.reduceNe
attribute [local go_sem ↓] reduceIte
set_option linter.all false
set_option maxRecDepth 100000
set_option maxHeartbeats 2000000
theorem qp8 {a:Int} (h1:-9223372036854775808<=a) (h2:a<=9223372036854775807):-9223372036854775808<=odd a/\odd a<=9223372036854775807:=by
 unfold odd;omega
theorem Pin.odd {q:Pc} (pin:Pin q):Pin { q with flags:=Ms.odd q.flags }:=⟨pin.kind,pin.op,pin.a,pin.b,pin.c,pin.limits,qp8 pin.flags.1 pin.flags.2⟩
theorem Wok.params {w:Ms} {N:Nat} (wk:Wok w N) {l:List Nat} (h:∀ v∈l,v<w.values.length) (hl:l.length<=2):Wok { w with known:=w.known++l } (N+2):=⟨wk.m1,wk.m2,wk.vals,fun v hv=>by
 rcases f0e.1 hv with h1 | h1
 .exact wk.known v h1
 .exact h v h1,wk.cur,f1q wk.nv,f1q wk.nb,by have:=wk.nk;simp;omega,fun b hb=>by have:=wk.ni b hb;omega,f1q wk.na⟩
theorem qd1 {h:Hp} {p:Nat} {w:Ms} {ns:List Nat} (ok:Ok h) (mr:MR tt h p w ns) {N:Nat} (wk:Wok w N) (hN:N<=50000) (pc:Pc) (pin:Pin pc) :
 WC F2 18 [.s (.ptr p 0),.agg (jce pc)] h (fun v h'=>v=.tup []/\∃ ns',MR tt h' p (jg5 w pc) ns'/\Mv h h' ns ns'):=by
 refine ja9 (no2 rfl rfl) qjo rfl ?_
 unfold j29
 have hpos:=ok.pos
 have K0:=(FS.refl ok mr).push (a:=.arr (jce pc) 69)
 have hx0:=(K0.kp _ (f07 ..)).1
 obtain⟨bx,ebx⟩:∃ bx,h.next=bx:=⟨_,rfl⟩
 simp only[ebx] at K0 hx0
 have hl:=jgo (n:=pc.c) (m:=2) (by omega)
 have ok0:=K0.ok
 obtain⟨⟨q1,q2⟩,⟨q3,q4⟩,⟨q5,q6⟩,⟨q7,q8⟩,⟨q9,q10⟩,⟨q11,q12⟩,⟨q13,q14⟩⟩:=id pin
 obtain⟨hA,eA⟩:∃ hA,h.push (AB.arr (jce pc) 69)=hA:=⟨_,rfl⟩
 rw[eA] at K0 hx0 ok0
 unfold jce at eA hx0
 simp(disch:=first|omega|rfl) only[go_sem,jf1,jf2,jf3,jf4,jf5,jb5,jam,jai,jba jio,jce,eA,hx0,ebx]
 refine WC.imp (jha K0 wk (by omega) hl (pc:=pc) pin) ?_
 rintro _ h1 ⟨rfl,ns1,K1⟩
 have wk1:=wk.new (pk pc.c 2) pc
 have ok1:=K1.ok
 have hx1:=(K1.kp _ (f07 ..)).1
 unfold jce at hx1
 obtain⟨v,ev⟩:∃ v,v=jac w (pk pc.c 2) pc:=⟨_,rfl⟩
 rw[←ev] at K1 wk1
 rw[←ev]
 simp(disch:=first|omega|rfl) only[go_sem,hx1]
 refine WC.imp (jha K1 wk1 (by omega) (cls:=0) (by omega) (pc:=pc) pin) ?_
 rintro _ h2 ⟨rfl,ns2,K2⟩
 have wk2:=wk1.new 0 pc
 have ok2:=K2.ok
 obtain⟨u,eu⟩:∃ u,u=jac v.2 0 pc:=⟨_,rfl⟩
 rw[←eu] at K2 wk2
 rw[←eu]
 simp(disch:=first|omega|rfl) only[go_sem]
 have K2':=K2.push (a:=.arr [si (pk pc.c 2:Nat),si (0:Nat)] 3)
 refine WC.imp (jyl K2' wk2 (by omega) (by omega)) ?_
 rintro _ h3 ⟨rfl,ns3,K3⟩
 have wk3:=wk2.block [pk pc.c 2,0] (by simp) (by simp;omega)
 have ok3:=K3.ok
 have b3:(jaf u.2 [pk pc.c 2,0]).blocks.length=u.2.blocks.length+1:=by simp[jaf]
 have p3:pr (jaf u.2 [pk pc.c 2,0]) u.2.blocks.length=some (List.range' u.2.values.length 2):=by
  unfold pr jaf
  simp
 have n3:(jaf u.2 [pk pc.c 2,0]).values.length=u.2.values.length+2:=by simp[jaf]
 generalize e3:jaf u.2 [pk pc.c 2,0]=w3 at *
 obtain⟨a,b,c,hg,kl,bl⟩:=K3.cells
 have hcur3:=wk3.cur
 simp(disch:=first|omega|rfl) only[go_sem,hg]
 have K3':=K3.push (a:=.arr [si (v.1:Nat),si (u.1:Nat)] 3)
 refine WC.imp (jvt K3' (fun r hr=>by have:=(K3.kp r hr).2.2.1;omega) hpos wk3 (by omega) (a:=w3.cur) (to:=u.2.blocks.length) hcur3) ?_
 rintro _ h4 ⟨rfl,ns4,K4⟩
 have wk4:=wk3.edge w3.cur u.2.blocks.length [v.1,u.1]
 have g4:=jcd w3 w3.cur u.2.blocks.length [v.1,u.1]
 have p4:=(jj0 w3 w3.cur u.2.blocks.length [v.1,u.1] u.2.blocks.length).trans p3
 have n4:(jav w3 w3.cur u.2.blocks.length [v.1,u.1]).values=w3.values:=rfl
 generalize e4:jav w3 w3.cur u.2.blocks.length [v.1,u.1]=w4 at *
 have ok4:=K4.ok
 obtain⟨a4,b4,c4,hg4,kl4,bl4⟩:=K4.cells
 have K5:=K4.setcur (j:=u.2.blocks.length) hg4
 have wk5:=wk4.setcur (j:=u.2.blocks.length) (by omega)
 obtain⟨h5,e5⟩:∃ h5,h4.put p (some (.arr [si w4.m.1,si w4.m.2,a4,b4,si (u.2.blocks.length:Nat),c4,si w4.all] tt.mas))=h5:=⟨_,rfl⟩
 rw[e5] at K5
 have ok5:=K5.ok
 obtain⟨blk,hblk,hpar⟩:=f0a.1 p4
 have hblk':({ w4 with cur:=u.2.blocks.length }:Ms).blocks[u.2.blocks.length]?=some blk:=hblk
 have hnk4:=wk4.nk
 obtain⟨a5,b5,c5,bb,pp,z,h6,ns6,hg5,ix,rd1,ea,ok6,hp6,K6⟩:=K5.params hblk' (by rw[hpar];simp) (by rw[hpar];simp;omega)
 have hg6:=hp6.trans hg5
 have wk6:=wk5.params (l:=blk.params) (fun v hv=>by
  rw[hpar] at hv
  have:=(f26.1 hv).2
  show v<w4.values.length
  rw[n4,n3];exact this) (by rw[hpar];simp)
 obtain⟨h7,e7⟩:∃ h7,h6.put p (some (.arr [si w4.m.1,si w4.m.2,a5,b5,si (u.2.blocks.length:Nat),z,si w4.all] tt.mas))=h7:=⟨_,rfl⟩
 have K7:FS h h7 p { w4 with cur:=u.2.blocks.length,known:=w4.known++blk.params } ns [(bx,.arr (jce pc) 69)] ns6:=by rw[←e7];exact K6
 have wk7:Wok { w4 with cur:=u.2.blocks.length,known:=w4.known++blk.params } _:=wk6
 have ok7:=K7.ok
 have hx7:=(K7.kp _ (f07 ..)).1
 have K8:=K7.put (a':=.arr (jce { pc with flags:=Ms.odd pc.flags }) 69) (by simp) hpos
 obtain⟨h8,e8⟩:∃ h8,h7.put bx (some (.arr (jce { pc with flags:=Ms.odd pc.flags }) 69))=h8:=⟨_,rfl⟩
 rw[e8] at K8
 have ok8:=K8.ok
 have hx8:=(K8.kp _ (f07 ..)).1
 unfold jce at hx7 hx8 e8
 have hor:=qiq q13 q14
 have hor':jep .or (.int .i64 pc.flags) (.int .i64 1)=some (vi (Ms.odd pc.flags)):=hor
 simp(disch:=first|omega|rfl) only[go_sem,hg4,e5,hg5,ix,rd1,ea,hg6,e7,hx7,hor',e8,hx8]
 obtain⟨w7,ew7⟩:∃ w7:Ms,w7={ w4 with cur:=u.2.blocks.length,known:=w4.known++blk.params }:=⟨_,rfl⟩
 rw[←ew7] at K8 wk7
 have l7:w7.blocks.length=w4.blocks.length:=by rw[ew7]
 refine WC.imp (jje K8 wk7 (by omega) (pc:={ pc with flags:=Ms.odd pc.flags }) pin.odd) ?_
 rintro _ h9 ⟨rfl,ns9,K9⟩
 have wk9:=wk7.lay { pc with flags:=Ms.odd pc.flags }
 have g9:=jeo w7 { pc with flags:=Ms.odd pc.flags }
 have hne:=jq9 (w:=w7) (p:={ pc with flags:=Ms.odd pc.flags })
 obtain⟨w9,e9⟩:∃ w9,w9=jcu w7 { pc with flags:=Ms.odd pc.flags }:=⟨_,rfl⟩
 rw[←e9] at K9 wk9 g9 hne
 have hlen9:1<=w9.known.length:=f1w.2 hne
 have ok9:=K9.ok
 obtain⟨a9,b9,c9,hg9,kl9,bl9⟩:=K9.cells
 simp(disch:=first|omega|rfl) only[go_sem,hg9,kl9]
 refine WC.imp (jlf K9 wk9 (by omega)) ?_
 rintro _ hA1 ⟨rfl,nsA,KA⟩
 have wkA:=wk9.block [] (by simp) (by simp)
 have okA:=KA.ok
 simp(disch:=first|omega|rfl) only[go_sem]
 refine WC.imp (jlf KA wkA (by omega)) ?_
 rintro _ hB ⟨rfl,nsB,KB⟩
 have wkB:=wkA.block [] (by simp) (by simp)
 have okB:=KB.ok
 have bA:(jaf w9 []).blocks.length=w9.blocks.length+1:=by simp[jaf]
 have bB:(jaf (jaf w9 []) []).blocks.length=w9.blocks.length+2:=by simp[jaf]
 have vB:(jaf (jaf w9 []) []).known=w9.known:=rfl
 rw[bA]
 generalize eB:jaf (jaf w9 []) []=wB at *
 simp(disch:=first|omega|rfl) only[go_sem]
 refine WC.imp (joc KB wkB (by omega) (a:=u.2.blocks.length) (to:=w9.blocks.length) (by omega)) ?_
 rintro _ hC ⟨rfl,nsC,KC⟩
 have wkC:=wkB.edge u.2.blocks.length w9.blocks.length []
 have gC:=jcd wB u.2.blocks.length w9.blocks.length []
 have okC:=KC.ok
 simp(disch:=first|omega|rfl) only[go_sem]
 refine WC.imp (joc KC wkC (by omega) (a:=u.2.blocks.length) (to:=w9.blocks.length+1) (by omega)) ?_
 rintro _ hD ⟨rfl,nsD,KD⟩
 have wkD:=wkC.edge u.2.blocks.length (w9.blocks.length+1) []
 have gD:=jcd (jav wB u.2.blocks.length w9.blocks.length []) u.2.blocks.length (w9.blocks.length+1) []
 have okD:=KD.ok
 obtain⟨wD,eD⟩:∃ wD,wD=jav (jav wB u.2.blocks.length w9.blocks.length []) u.2.blocks.length (w9.blocks.length+1) []:=⟨_,rfl⟩
 rw[←eD] at KD wkD gD
 obtain⟨aD,bD,cD,hgD,klD,blD⟩:=KD.cells
 have KE:=KD.setcur (j:=w9.blocks.length) hgD
 have wkE:=wkD.setcur (j:=w9.blocks.length) (by omega)
 obtain⟨hE,eE⟩:∃ hE,hD.put p (some (.arr [si wD.m.1,si wD.m.2,aD,bD,si (w9.blocks.length:Nat),cD,si wD.all] tt.mas))=hE:=⟨_,rfl⟩
 rw[eE] at KE
 have okE:=KE.ok
 have hxE:=(KE.kp _ (f07 ..)).1
 have KF:=KE.put (a':=.arr (jce { pc with flags:=Ms.odd pc.flags,a:=inc pc.a }) 69) (by simp) hpos
 obtain⟨hF,eF⟩:∃ hF,hE.put bx (some (.arr (jce { pc with flags:=Ms.odd pc.flags,a:=inc pc.a }) 69))=hF:=⟨_,rfl⟩
 rw[eF] at KF
 have okF:=KF.ok
 have hxF:=(KF.kp _ (f07 ..)).1
 have KG:=KF.put (a':=.arr (jce { pc with flags:=Ms.odd pc.flags,a:=inc pc.a,op:=inc pc.op }) 69) (by simp) hpos
 obtain⟨hG,eG⟩:∃ hG,hF.put bx (some (.arr (jce { pc with flags:=Ms.odd pc.flags,a:=inc pc.a,op:=inc pc.op }) 69))=hG:=⟨_,rfl⟩
 rw[eG] at KG
 have okG:=KG.ok
 have hxG:=(KG.kp _ (f07 ..)).1
 unfold jce at hxE hxF hxG eF eG
 have ha:=jvu q5 q6
 have ho:=jvu q3 q4
 simp(disch:=first|omega|rfl) only[go_sem,hgD,eE,hxE,ha,eF,hxF,ho,eG,hxG]
 have pinG:Pin { pc with flags:=Ms.odd pc.flags,a:=inc pc.a,op:=inc pc.op }:=pin.odd.incA.incO
 refine WC.imp (jje KG wkE (by omega) (pc:={ pc with flags:=Ms.odd pc.flags,a:=inc pc.a,op:=inc pc.op }) pinG) ?_
 rintro _ hH ⟨rfl,nsH,KH⟩
 have wkH:=wkE.lay { pc with flags:=Ms.odd pc.flags,a:=inc pc.a,op:=inc pc.op }
 have gH:=jeo { wD with cur:=w9.blocks.length } { pc with flags:=Ms.odd pc.flags,a:=inc pc.a,op:=inc pc.op }
 have okH:=KH.ok
 have hxH:=(KH.kp _ (f07 ..)).1
 unfold jce at hxH
 simp(disch:=first|omega|rfl) only[go_sem,hxH]
 refine WC.imp (jha KH wkH (by omega) hl (pc:={ pc with flags:=Ms.odd pc.flags,a:=inc pc.a,op:=inc pc.op }) pinG) ?_
 rintro _ hI ⟨rfl,nsI,KI⟩
 have wkI:=wkH.new (pk pc.c 2) { pc with flags:=Ms.odd pc.flags,a:=inc pc.a,op:=inc pc.op }
 have gI:=jdc (jcu { wD with cur:=w9.blocks.length } { pc with flags:=Ms.odd pc.flags,a:=inc pc.a,op:=inc pc.op }) (pk pc.c 2) { pc with flags:=Ms.odd pc.flags,a:=inc pc.a,op:=inc pc.op }
 have okI:=KI.ok
 have hxI:=(KI.kp _ (f07 ..)).1
 unfold jce at hxI
 obtain⟨x,ex⟩:∃ x,x=jac (jcu { wD with cur:=w9.blocks.length } { pc with flags:=Ms.odd pc.flags,a:=inc pc.a,op:=inc pc.op }) (pk pc.c 2) { pc with flags:=Ms.odd pc.flags,a:=inc pc.a,op:=inc pc.op }:=⟨_,rfl⟩
 rw[←ex] at KI wkI gI
 rw[←ex]
 simp(disch:=first|omega|rfl) only[go_sem,hxI]
 refine WC.imp (jha KI wkI (by omega) (cls:=0) (by omega) (pc:={ pc with flags:=Ms.odd pc.flags,a:=inc pc.a,op:=inc pc.op }) pinG) ?_
 rintro _ hJ ⟨rfl,nsJ,KJ⟩
 have wkJ:=wkI.new 0 { pc with flags:=Ms.odd pc.flags,a:=inc pc.a,op:=inc pc.op }
 have gJ:=jdc x.2 0 { pc with flags:=Ms.odd pc.flags,a:=inc pc.a,op:=inc pc.op }
 have okJ:=KJ.ok
 obtain⟨y,ey⟩:∃ y,y=jac x.2 0 { pc with flags:=Ms.odd pc.flags,a:=inc pc.a,op:=inc pc.op }:=⟨_,rfl⟩
 rw[←ey] at KJ wkJ gJ
 rw[←ey]
 simp(disch:=first|omega|rfl) only[go_sem]
 have KJ':=KJ.push (a:=.arr [si (x.1:Nat),si (y.1:Nat)] 3)
 have lD:wD.blocks.length=w9.blocks.length+2:=by rw[gD.2,gC.2,bB]
 have lH:({ wD with cur:=w9.blocks.length }:Ms).blocks.length=w9.blocks.length+2:=lD
 refine WC.imp (jvt KJ' (fun r hr=>by have:=(KJ.kp r hr).2.2.1;omega) hpos wkJ (by omega) (a:=w9.blocks.length) (to:=u.2.blocks.length) (by omega)) ?_
 rintro _ hK ⟨rfl,nsK,KK⟩
 have wkK:=wkJ.edge w9.blocks.length u.2.blocks.length [x.1,y.1]
 have gK:=jcd y.2 w9.blocks.length u.2.blocks.length [x.1,y.1]
 have okK:=KK.ok
 obtain⟨wK,eK⟩:∃ wK,wK=jav y.2 w9.blocks.length u.2.blocks.length [x.1,y.1]:=⟨_,rfl⟩
 rw[←eK] at KK wkK gK
 have kD:wD.known.length=w9.known.length:=by rw[gD.1,gC.1,vB]
 have kH:({ wD with cur:=w9.blocks.length }:Ms).known.length=w9.known.length:=kD
 have kK:w9.known.length<=wK.known.length:=by rw[gK.1];have:=gH.1;have:=gI.1;have:=gJ.1;omega
 obtain⟨aK,bK,cK,xK,yK,hL,nsL,hgK,eK1,eK2,okL,hpL,KL⟩:=KK.take hlen9 kK (by have:=wkK.nk;omega)
 have hgL:=hpL.trans hgK
 obtain⟨hM,eM⟩:∃ hM,hL.put p (some (.arr [si wK.m.1,si wK.m.2,aK,bK,si wK.cur,yK,si wK.all] tt.mas))=hM:=⟨_,rfl⟩
 rw[eM] at KL
 have okM:=KL.ok
 obtain⟨aM,bM,cM,hgM,klM,blM⟩:=KL.cells
 have KN:=KL.setcur (j:=w9.blocks.length+1) hgM
 simp(disch:=first|omega|rfl) only[go_sem,hgK,eK1,eK2,hgL,jip,eM,hgM]
 have hfin:jg5 w pc={ wK with known:=wK.known.take w9.known.length,cur:=w9.blocks.length+1 }:=by
  have hp:(w4.blocks.getD u.2.blocks.length ⟨[],[],[]⟩).params=blk.params:=by rw[f0f,hblk,f1t]
  rw[←hp] at ew7
  subst eK ey ex eD eB e9 ew7 e4 e3 eu ev
  rfl
 rw[hfin]
 exact⟨_,KN.mr,KN.mv⟩
open Go Go.RowKit
variable {x0 x1 x2 x3 x4 x5 x6 x7 x8 x9 x10 x12:AV} {Q:Ex->St->Prop} {hi:Hp} {ns ns':List Nat} {N p:Nat}
def jvw:IC:=.draw [(qM 11,.none),(qN,.none),(qG 2,.none),(qG 1,.none),(qL,.some []),(qP (.len qa),.none),(qP (.bin .add qa (qC 3)),.none),(qP (.bin .le qa (qC 16)),.none),(qP (.mv qa),.none),(qR 0 true (.mv (.g 11)),.none),(qR 1 true (.nchk qa),.none),(qR 2 true (.fld 2 qa),.none),(qR 3 true (.fld 1 qa),.none),(qS 4 true (.load 1 false qa),.some []),(qR 5 true (.mv (.g 11)),.none),(qR 6 true (.nchk qa),.none),(qR 7 true (.fld 4 qa),.none),(qS 8 true (.load 1 false qa),.some [3]),(qR 9 true (.ixs 3 (.l 4) qa),.none),(qR 10 true (.fld 1 qa),.none),(qS 11 true (.load 1 false qa),.none),(qR 12 true (.len qa),.none),(qR 13 true (.bin .lt qa (qC 20)),.none),(qP (.pick (.l 14) qa (.c (.s (.bool false)))),.none),(qP (.mv qa),.none),(qR 0 true (.mv (.g 11)),.none),(qR 1 true (.nchk qa),.none),(qR 2 true (.fld 2 qa),.none),(qR 3 true (.fld 0 qa),.none),(qS 4 true (.load 1 false qa),.none),(qR 5 true (.len qa),.none),(qR 6 true (.bin .lt qa (qC 110)),.none),(qP (.pick (.l 7) qa (.c (.s (.bool false)))),.none),(qT 6,.none)]
def jvx:IC:=.draw [(qM 11,.none),(qN,.none),(qG 2,.none),(qG 1,.none),(qL,.some []),(qM 11,.none),(qN,.none),(qG 4,.none),(qL,.some [3]),(qP (.ixs 3 (.l 4) qa),.none),(qG 1,.none),(qL,.none),(qP (.len qa),.none),(qP (.bin .lt qa (qC 20)),.none),(qP (.mv qa),.none),(qR 0 true (.mv (.g 11)),.none),(qR 1 true (.nchk qa),.none),(qR 2 true (.fld 2 qa),.none),(qR 3 true (.fld 0 qa),.none),(qS 4 true (.load 1 false qa),.none),(qR 5 true (.len qa),.none),(qR 6 true (.bin .lt qa (qC 120)),.none),(qP (.pick (.l 7) qa (.c (.s (.bool false)))),.none),(qT 3,.none)]
def j3k:IC:=.seq (.block 1 (qr [qM 1,qM 10,qP (.ixs 7 qb qa),qK 7,qB 8 (.new 69 [.int .i64 0,.int .i64 0,.int .i64 0,.int .i64 0,.int .i64 0,.int .i64 0,.int .i64 0]),qA (.store 7 qa qb)] (.seq jvw (qr [qF 0 8,qL,qA (.call 8 [qa,qC 6]),qT 7] (.block 2 (qr [qM 7,qP (.bin .eq qa (qC 0)),qP (.mv qa),qR 0 true (.mv (.g 6)),qP (.pick qb qa (.c (.s (.bool false)))),qT 5] (.cond (.g 5) (.region [qM 11,qA (.load 7 true (.g 8)),qA (.call 17 [qb,qa])]) (qr [qM 7,qP (.bin .eq qa (qC 1)),qP (.mv qa),qR 0 true (.mv (.g 6)),qP (.pick qb qa (.c (.s (.bool false)))),qT 4] (.cond (.g 4) (.region [qM 11,qA (.load 7 true (.g 8)),qA (.call 18 [qb,qa])]) (.seq jvx (.cond (.g 3) (.region [qM 11,qA (.load 7 true (.g 8)),qA (.call 19 [qb,qa])]) .skip))))))))))) (.region [qM 10,qP (.bin .add qa (qC 1)),qT 10])
def ji3:IC:=.seq (qr [qM 10,qM 1,qP (.len qa),qP (.bin .lt qc qa),qP (.mv qa),qR 0 true (.mv (.g 10)),qR 1 true (.bin .lt qa (qC 24)),qQ 9 (.pick qc qa (.c (.s (.bool false))))] (qX 9 0)) j3k
def j9o:IC:=qr [qB 12 (.box 25 (.g 0)),qB 2 (.new 29 [.nilSlice,.nilSlice])] (qr [qA (.load 2 true (.g 12)),qP (.build [.int .i64 0,.int .i64 0,.nilSlice,.nilSlice,.int .i64 0,.nilSlice,.int .i64 0] [(0,(2,qa))]),qA (.box 66 qa),qT 11] (qr [qM 11,qA (.call 16 [qa,.c (.s .nilSlice)])] (.seq (qr [qQ 10 (.mv (qC 0))] (.block 0 (.loop ji3))) (qr [qM 11,qP (.build [.int .i64 0,.int .i64 0,.int .i64 0,.int .i64 0,.int .i64 0,.int .i64 0,.int .i64 0] [(2,(1,qC 1)),(6,(1,qC 3))]),qA (.call 19 [qb,qa])] (qr [qM 11,qN,qG 2,qK 2,qA (.store 2 (.g 2) qa)] .ret)))))
theorem qp9:T 7=some (.mk j9o 2 11 [(.cell 2 2 true)]):=by kernel_rfl
theorem FS.cur {h0:Hp} {w:Ms} {L:List (Nat×AB)} (k:FS h0 hi p w ns L ns') (hc:w.cur<w.blocks.length):∃ a b c bb ia,hi.get p=some (.arr [si w.m.1,si w.m.2,a,b,si w.cur,c,si w.all] tt.mas)/\j0b (.s a)=some (vi w.values.length)/\j0b (.s b)=some (vi w.blocks.length) /\
 jza 3 (.s b) (vi (w.cur:Int))=some (.s (.ptr bb (w.cur*3)))/\rdB (hi.get bb) (w.cur*3+1) 1=some [ia]/\j0b (.s ia)=some (vi (lenOf w)):=by
 obtain⟨⟨a,b,c,n1,n2,n3,h1,h2,h3,h4,e⟩,h5,h6⟩:=k.mr
 obtain⟨blk,hblk⟩:∃ blk,w.blocks[w.cur]?=some blk:=⟨_,f0b hc⟩
 obtain⟨bb,row,ms,ix,hrd,hrl,⟨pp,ia,ee,na,nb,nc,rfl,sp,sI,sE,rfl⟩,hms,hbb⟩:=h3.at hblk
 have rd1:=jg3 (j:=1) (c:=ia) hrd rfl
 refine⟨a,b,c,bb,ia,h1,h2.len,h3.len,ix,rd1,?_⟩
 rw[sI.len]
 unfold lenOf
 rw[f0f,hblk,f1t]
def j3l (w:Ms):Bool:=decide (w.blocks.length+3<=16)&&(decide (lenOf w<20)&&decide (w.values.length<110))
theorem qjy {h0:Hp} {w:Ms} {L:List (Nat×AB)} (k:FS h0 hi p w ns L ns') (hc:w.cur<w.blocks.length) (h1:w.blocks.length<=100000)
 (hQ:Q .normal (.mk [x0,x1,x2,x3,x4,x5,vb (j3l w),x7,x8,x9,x10,.s (.ptr p 0),x12] hi)):W F2 jvw (.mk [x0,x1,x2,x3,x4,x5,x6,x7,x8,x9,x10,.s (.ptr p 0),x12] hi) Q:=by
 unfold jvw
 obtain⟨a,b,c,bb,ia,hg,vl,bl,ix,rd1,il⟩:=k.cur hc
 have ok:=k.ok
 unfold j3l at hQ
 by_cases c1:(w.blocks.length:Int)+3<=16
 .have e1:decide (w.blocks.length+3<=16)=true:=decide_eq_true (by omega)
  rw[e1] at hQ
  by_cases c2:(lenOf w:Int)<20
  .have e2:decide (lenOf w<20)=true:=decide_eq_true (by omega)
   rw[e2] at hQ
   by_cases c3:(w.values.length:Int)<110
   .have e3:decide (w.values.length<110)=true:=decide_eq_true (by omega)
    rw[e3] at hQ
    simp(disch:=first|omega|rfl) only[go_sem,hg,vl,bl,ix,rd1,il,jad,eq_true c1,eq_true c2,eq_true c3]
    exact hQ
   .have e3:decide (w.values.length<110)=false:=decide_eq_false (by omega)
    rw[e3] at hQ
    simp(disch:=first|omega|rfl) only[go_sem,hg,vl,bl,ix,rd1,il,jad,eq_true c1,eq_true c2,eq_false c3]
    exact hQ
  .have e2:decide (lenOf w<20)=false:=decide_eq_false (by omega)
   rw[e2] at hQ
   simp(disch:=first|omega|rfl) only[go_sem,hg,vl,bl,ix,rd1,il,jad,eq_true c1,eq_false c2]
   exact hQ
 .have e1:decide (w.blocks.length+3<=16)=false:=decide_eq_false (by omega)
  rw[e1] at hQ
  simp(disch:=first|omega|rfl) only[go_sem,hg,vl,bl,ix,rd1,il,jad,eq_false c1]
  exact hQ
def jn1 (w:Ms):Bool:=decide (lenOf w<20)&&decide (w.values.length<120)
theorem jod {h0:Hp} {w:Ms} {L:List (Nat×AB)} (k:FS h0 hi p w ns L ns') (hc:w.cur<w.blocks.length)
 (hQ:Q .normal (.mk [x0,x1,x2,vb (jn1 w),x4,x5,x6,x7,x8,x9,x10,.s (.ptr p 0),x12] hi)):W F2 jvx (.mk [x0,x1,x2,x3,x4,x5,x6,x7,x8,x9,x10,.s (.ptr p 0),x12] hi) Q:=by
 unfold jvx
 obtain⟨a,b,c,bb,ia,hg,vl,bl,ix,rd1,il⟩:=k.cur hc
 have ok:=k.ok
 unfold jn1 at hQ
 by_cases c2:(lenOf w:Int)<20
 .have e2:decide (lenOf w<20)=true:=decide_eq_true (by omega)
  rw[e2] at hQ
  by_cases c3:(w.values.length:Int)<120
  .have e3:decide (w.values.length<120)=true:=decide_eq_true (by omega)
   rw[e3] at hQ
   simp(disch:=first|omega|rfl) only[go_sem,hg,vl,bl,ix,rd1,il,jad,eq_true c2,eq_true c3]
   exact hQ
  .have e3:decide (w.values.length<120)=false:=decide_eq_false (by omega)
   rw[e3] at hQ
   simp(disch:=first|omega|rfl) only[go_sem,hg,vl,bl,ix,rd1,il,jad,eq_true c2,eq_false c3]
   exact hQ
 .have e2:decide (lenOf w<20)=false:=decide_eq_false (by omega)
  rw[e2] at hQ
  simp(disch:=first|omega|rfl) only[go_sem,hg,vl,bl,ix,rd1,il,jad,eq_false c2]
  exact hQ
theorem j9p (w:Ms) (p:Pc):w.values.length<=(jcu w p).values.length:=by
 obtain⟨cs,h1,h2,h3⟩:=jle w p
 show _<=(ja0 w p).2.values.length
 rw[h3];simp
theorem jtb (w:Ms) (c:Nat) (p:Pc):w.values.length<=(jac w c p).2.values.length:=by
 unfold jac
 split
 .exact f0d _
 .exact j9p _ _
theorem j3m (w:Ms) (cls before e k:Nat) (q:Pc):w.values.length<=(j1k w cls before e k q).values.length :=
 f01 (jtb w cls q) (jtb _ 0 q)
theorem j9q (q:Pc) (cls before e k:Nat) (lay:Bool) (w:Ms):w.values.length<=(ji0 q cls before e k lay w).2.values.length:=by
 rw[qd0]
 cases lay with
 | true=>exact f01 (j9p { w with cur:=k } _) (j3m _ _ _ _ _ _)
 | false=>exact j3m { w with cur:=k } _ _ _ _ _
theorem Wok.le {w:Ms} {M:Nat} (wk:Wok w N) (h:N<=M):Wok w M:=⟨wk.m1,wk.m2,wk.vals,wk.known,wk.cur,f01 wk.nv h,f01 wk.nb h,f01 wk.nk h,fun b hb=>by have:=wk.ni b hb;omega,f01 wk.na h⟩
theorem Wok.fork {w:Ms} (wk:Wok w N) (pc:Pc):Wok (jf0 w pc) (N+100):=by
 have hl:=jgo (n:=pc.c) (m:=2) (by omega)
 have wk1:=wk.lay pc
 have gl:=jeo w pc
 obtain⟨w1,e1⟩:∃ w1,w1=jcu w pc:=⟨_,rfl⟩
 rw[←e1] at wk1 gl
 have wk4:=((wk1.block [] (by simp) (by simp)).block [] (by simp) (by simp)).block [pk pc.c 2,0] (by simp) (by simp;omega)
 have b3:(jaf (jaf (jaf w1 []) []) [pk pc.c 2,0]).blocks.length=w1.blocks.length+3:=by simp[jaf]
 have p3:pr (jaf (jaf (jaf w1 []) []) [pk pc.c 2,0]) (w1.blocks.length+2)=some (List.range' (w1.values.length) 2):=by
  unfold pr jaf
  simp
 have v3:(jaf (jaf (jaf w1 []) []) [pk pc.c 2,0]).known=w1.known:=rfl
 have n3:(jaf (jaf (jaf w1 []) []) [pk pc.c 2,0]).values.length=w1.values.length+2:=by simp[jaf]
 generalize e4:jaf (jaf (jaf w1 []) []) [pk pc.c 2,0]=w4 at *
 have wk6:=(wk4.edge w1.cur w1.blocks.length []).edge w1.cur (w1.blocks.length+1) []
 have g5:=jcd w4 w1.cur w1.blocks.length []
 have g6:=jcd (jav w4 w1.cur w1.blocks.length []) w1.cur (w1.blocks.length+1) []
 have p6:pr (jav (jav w4 w1.cur w1.blocks.length []) w1.cur (w1.blocks.length+1) []) (w1.blocks.length+2)=some (List.range' (w1.values.length) 2):=by rw[jj0,jj0,p3]
 have n6:(jav (jav w4 w1.cur w1.blocks.length []) w1.cur (w1.blocks.length+1) []).values=w4.values:=rfl
 obtain⟨w6,e6⟩:∃ w6,w6=jav (jav w4 w1.cur w1.blocks.length []) w1.cur (w1.blocks.length+1) []:=⟨_,rfl⟩
 rw[←e6] at wk6 g6 p6 n6
 have hkn:w6.known.length=w1.known.length:=by rw[g6.1,g5.1,v3]
 have l8:=jvv (q:=pc) (cls:=pk pc.c 2) (before:=w1.known.length) (e:=w1.blocks.length+2) (k:=w1.blocks.length) (lay:=true) (w:=w6) (by omega)
 have wk8:=wk6.way pc (pk pc.c 2) w1.known.length (w1.blocks.length+2) w1.blocks.length true (by omega)
 have p8:=(j3j pc (pk pc.c 2) w1.known.length (w1.blocks.length+2) w1.blocks.length true w6 (w1.blocks.length+2)).trans p6
 have n8:=j9q pc (pk pc.c 2) w1.known.length (w1.blocks.length+2) w1.blocks.length true w6
 obtain⟨x,ex⟩:∃ x,x=ji0 pc (pk pc.c 2) w1.known.length (w1.blocks.length+2) w1.blocks.length true w6:=⟨_,rfl⟩
 rw[←ex] at l8 wk8 p8 n8
 have l9:=jvv (q:=x.1) (cls:=pk pc.c 2) (before:=w1.known.length) (e:=w1.blocks.length+2) (k:=w1.blocks.length+1) (lay:=decide (pk pc.flags 2=1)) (w:=x.2) (by omega)
 have wk9:=wk8.way x.1 (pk pc.c 2) w1.known.length (w1.blocks.length+2) (w1.blocks.length+1) (decide (pk pc.flags 2=1)) (by omega)
 have p9:=(j3j x.1 (pk pc.c 2) w1.known.length (w1.blocks.length+2) (w1.blocks.length+1) (decide (pk pc.flags 2=1)) x.2 (w1.blocks.length+2)).trans p8
 have n9:=j9q x.1 (pk pc.c 2) w1.known.length (w1.blocks.length+2) (w1.blocks.length+1) (decide (pk pc.flags 2=1)) x.2
 obtain⟨y,ey⟩:∃ y,y=ji0 x.1 (pk pc.c 2) w1.known.length (w1.blocks.length+2) (w1.blocks.length+1) (decide (pk pc.flags 2=1)) x.2:=⟨_,rfl⟩
 rw[←ey] at l9 wk9 p9 n9
 obtain⟨blk,hblk,hpar⟩:=f0a.1 p9
 have hfin:jf0 w pc={ y.2 with cur:=w1.blocks.length+2,known:=y.2.known++blk.params }:=by
  have h1:jf0 w pc={ y.2 with cur:=w1.blocks.length+2,known:=y.2.known++(y.2.blocks.getD (w1.blocks.length+2) ⟨[],[],[]⟩).params }:=by
   subst ey ex e6 e4 e1
   rfl
  rw[h1,f0f,hblk,f1t]
 rw[hfin]
 refine((wk9.setcur (j:=w1.blocks.length+2) (by omega)).params (l:=blk.params) (fun v hv=>?_) (by rw[hpar];simp)).le (by omega)
 rw[hpar] at hv
 have h1:=(f26.1 hv).2
 have h2:w6.values.length=w1.values.length+2:=by rw[n6,n3]
 show v<y.2.values.length
 omega
theorem Wok.mloop {w:Ms} (wk:Wok w N) (pc:Pc):Wok (jg5 w pc) (N+100):=by
 have hl:=jgo (n:=pc.c) (m:=2) (by omega)
 have wk1:=wk.new (pk pc.c 2) pc
 obtain⟨v,ev⟩:∃ v,v=jac w (pk pc.c 2) pc:=⟨_,rfl⟩
 rw[←ev] at wk1
 have wk2:=wk1.new 0 pc
 obtain⟨u,eu⟩:∃ u,u=jac v.2 0 pc:=⟨_,rfl⟩
 rw[←eu] at wk2
 have wk3:=wk2.block [pk pc.c 2,0] (by simp) (by simp;omega)
 have b3:(jaf u.2 [pk pc.c 2,0]).blocks.length=u.2.blocks.length+1:=by simp[jaf]
 have p3:pr (jaf u.2 [pk pc.c 2,0]) u.2.blocks.length=some (List.range' u.2.values.length 2):=by
  unfold pr jaf
  simp
 have n3:(jaf u.2 [pk pc.c 2,0]).values.length=u.2.values.length+2:=by simp[jaf]
 generalize e3:jaf u.2 [pk pc.c 2,0]=w3 at *
 have wk4:=wk3.edge w3.cur u.2.blocks.length [v.1,u.1]
 have g4:=jcd w3 w3.cur u.2.blocks.length [v.1,u.1]
 have p4:=(jj0 w3 w3.cur u.2.blocks.length [v.1,u.1] u.2.blocks.length).trans p3
 have n4:(jav w3 w3.cur u.2.blocks.length [v.1,u.1]).values=w3.values:=rfl
 generalize e4:jav w3 w3.cur u.2.blocks.length [v.1,u.1]=w4 at *
 obtain⟨blk,hblk,hpar⟩:=f0a.1 p4
 have wk5:=wk4.setcur (j:=u.2.blocks.length) (by omega)
 have wk7:Wok { w4 with cur:=u.2.blocks.length,known:=w4.known++blk.params } _:=wk5.params (l:=blk.params) (fun v hv=>by
  rw[hpar] at hv
  have:=(f26.1 hv).2
  show v<w4.values.length
  rw[n4,n3];exact this) (by rw[hpar];simp)
 obtain⟨w7,ew7⟩:∃ w7:Ms,w7={ w4 with cur:=u.2.blocks.length,known:=w4.known++blk.params }:=⟨_,rfl⟩
 rw[←ew7] at wk7
 have l7:w7.blocks.length=w4.blocks.length:=by rw[ew7]
 have wk9:=wk7.lay { pc with flags:=Ms.odd pc.flags }
 have g9:=jeo w7 { pc with flags:=Ms.odd pc.flags }
 obtain⟨w9,e9⟩:∃ w9,w9=jcu w7 { pc with flags:=Ms.odd pc.flags }:=⟨_,rfl⟩
 rw[←e9] at wk9 g9
 have wkB:=(wk9.block [] (by simp) (by simp)).block [] (by simp) (by simp)
 have bB:(jaf (jaf w9 []) []).blocks.length=w9.blocks.length+2:=by simp[jaf]
 generalize eB:jaf (jaf w9 []) []=wB at *
 have wkD:=(wkB.edge u.2.blocks.length w9.blocks.length []).edge u.2.blocks.length (w9.blocks.length+1) []
 have gC:=jcd wB u.2.blocks.length w9.blocks.length []
 have gD:=jcd (jav wB u.2.blocks.length w9.blocks.length []) u.2.blocks.length (w9.blocks.length+1) []
 obtain⟨wD,eD⟩:∃ wD,wD=jav (jav wB u.2.blocks.length w9.blocks.length []) u.2.blocks.length (w9.blocks.length+1) []:=⟨_,rfl⟩
 rw[←eD] at wkD gD
 have wkH:=(wkD.setcur (j:=w9.blocks.length) (by omega)).lay { pc with flags:=Ms.odd pc.flags,a:=inc pc.a,op:=inc pc.op }
 have gH:=jeo { wD with cur:=w9.blocks.length } { pc with flags:=Ms.odd pc.flags,a:=inc pc.a,op:=inc pc.op }
 have wkI:=wkH.new (pk pc.c 2) { pc with flags:=Ms.odd pc.flags,a:=inc pc.a,op:=inc pc.op }
 have gI:=jdc (jcu { wD with cur:=w9.blocks.length } { pc with flags:=Ms.odd pc.flags,a:=inc pc.a,op:=inc pc.op }) (pk pc.c 2) { pc with flags:=Ms.odd pc.flags,a:=inc pc.a,op:=inc pc.op }
 obtain⟨x,ex⟩:∃ x,x=jac (jcu { wD with cur:=w9.blocks.length } { pc with flags:=Ms.odd pc.flags,a:=inc pc.a,op:=inc pc.op }) (pk pc.c 2) { pc with flags:=Ms.odd pc.flags,a:=inc pc.a,op:=inc pc.op }:=⟨_,rfl⟩
 rw[←ex] at wkI gI
 have wkJ:=wkI.new 0 { pc with flags:=Ms.odd pc.flags,a:=inc pc.a,op:=inc pc.op }
 have gJ:=jdc x.2 0 { pc with flags:=Ms.odd pc.flags,a:=inc pc.a,op:=inc pc.op }
 obtain⟨y,ey⟩:∃ y,y=jac x.2 0 { pc with flags:=Ms.odd pc.flags,a:=inc pc.a,op:=inc pc.op }:=⟨_,rfl⟩
 rw[←ey] at wkJ gJ
 have wkK:=wkJ.edge w9.blocks.length u.2.blocks.length [x.1,y.1]
 have gK:=jcd y.2 w9.blocks.length u.2.blocks.length [x.1,y.1]
 obtain⟨wK,eK⟩:∃ wK,wK=jav y.2 w9.blocks.length u.2.blocks.length [x.1,y.1]:=⟨_,rfl⟩
 rw[←eK] at wkK gK
 have hfin:jg5 w pc={ wK with known:=wK.known.take w9.known.length,cur:=w9.blocks.length+1 }:=by
  have hp:(w4.blocks.getD u.2.blocks.length ⟨[],[],[]⟩).params=blk.params:=by rw[f0f,hblk,f1t]
  rw[←hp] at ew7
  subst eK ey ex eD eB e9 ew7 e4 e3 eu ev
  rfl
 rw[hfin]
 have lH:({ wD with cur:=w9.blocks.length }:Ms).blocks.length=w9.blocks.length+2:=by
  show wD.blocks.length=_
  rw[gD.2,gC.2,bB]
 exact((wkK.take (j:=w9.known.length)).setcur (j:=w9.blocks.length+1) (by show _<wK.blocks.length;rw[gK.2,gJ.2,gI.2,gH.2,lH];omega)).le (by omega)
theorem Wok.piece {w:Ms} (wk:Wok w N) (pc:Pc):Wok (jbz w pc) (N+100):=by
 unfold jbz
 simp only
 split
 .exact wk.fork pc
 .split
  .exact wk.mloop pc
  .split
   .exact (wk.lay pc).le (by omega)
   .exact wk.le (by omega)
theorem qd2 (w:Ms) (p:Pc):jbz w p=if pk p.kind 6=0/\j3l w=true then jf0 w p else if pk p.kind 6=1/\j3l w=true then jg5 w p else if jn1 w=true then jcu w p else w:=by
 unfold jbz j3l jn1
 simp only[f0y,decide_eq_true_eq]
end Go.Proofs.YtdbklpgagdbpiaaDoor.Ev
