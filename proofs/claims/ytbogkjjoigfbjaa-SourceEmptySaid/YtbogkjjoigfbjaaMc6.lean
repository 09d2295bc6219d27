/- The builders of functions: a loop. -/
import Derived.Test.YtbogkjjoigfbjaaMc4
namespace Go.Proofs.Ytbogkjjoigfbjaa.Ev
open Go Go.RowKit Go.Proofs.Ytbogkjjoigfbjaa.Ms
set_option linter.all false
set_option maxRecDepth 100000
set_option maxHeartbeats 2000000
theorem j8a {a:Int} (h1:-9223372036854775808<=a) (h2:a<=9223372036854775807):-9223372036854775808<=odd a/\odd a<=9223372036854775807:=by
 unfold odd;omega
theorem Pin.odd {q:Pc} (pin:Pin q):Pin { q with flags:=Ms.odd q.flags }:=⟨pin.kind,pin.op,pin.a,pin.b,pin.c,pin.limits,j8a pin.flags.1 pin.flags.2⟩
theorem Wok.params {w:Ms} {N:Nat} (wk:Wok w N) {l:List Nat} (h:∀ v∈l,v<w.values.length) (hl:l.length<=2):Wok { w with known:=w.known++l } (N+2):=⟨wk.m1,wk.m2,wk.vals,fun v hv=>by
 rcases f0i.1 hv with h1 | h1
 .exact wk.known v h1
 .exact h v h1,wk.cur,f06 wk.nv,f06 wk.nb,by have:=wk.nk;simp;omega,fun b hb=>by have:=wk.ni b hb;omega,f06 wk.na⟩
open Go Go.RowKit
variable {N:Nat}
theorem FS.cur {h0 hi:Hp} {p:Nat} {w:Ms} {ns ns':List Nat} {L:List (Nat×AB)} (k:FS h0 hi p w ns L ns') (hc:w.cur<w.blocks.length):∃ a b c bb ia,hi.get p=some (.arr [si w.m.1,si w.m.2,a,b,si w.cur,c,si w.all] tt.mas)/\js2 (.s a)=some (vi w.values.length)/\js2 (.s b)=some (vi w.blocks.length) /\
 jwo 3 (.s b) (vi (w.cur:Int))=some (.s (.ptr bb (w.cur*3)))/\rdB (hi.get bb) (w.cur*3+1) 1=some [ia]/\js2 (.s ia)=some (vi (lenOf w)):=by
 obtain⟨⟨a,b,c,n1,n2,n3,h1,h2,h3,h4,e⟩,h5,h6⟩:=k.mr
 obtain⟨blk,hblk⟩:∃ blk,w.blocks[w.cur]?=some blk:=⟨_,f0f hc⟩
 obtain⟨bb,row,ms,ix,hrd,hrl,⟨pp,ia,ee,na,nb,nc,rfl,sp,sI,sE,rfl⟩,hms,hbb⟩:=h3.at hblk
 have rd1:=jrp (j:=1) (c:=ia) hrd rfl
 refine⟨a,b,c,bb,ia,h1,h2.len,h3.len,ix,rd1,?_⟩
 rw[sI.len]
 unfold lenOf
 rw[f0c,hblk,f2o]
def qah (w:Ms):Bool:=decide (w.blocks.length+3<=16)&&(decide (lenOf w<20)&&decide (w.values.length<110))
theorem j0n (w:Ms) (p:Pc):w.values.length<=(jcu w p).values.length:=by
 obtain⟨cs,h1,h2,h3⟩:=jjy w p
 show _<=(jav w p).2.values.length
 rw[h3];simp
theorem jn3 (w:Ms) (c:Nat) (p:Pc):w.values.length<=(jac w c p).2.values.length:=by
 unfold jac
 split
 .exact f0b _
 .exact j0n _ _
theorem jvc (w:Ms) (cls before e k:Nat) (q:Pc):w.values.length<=(jwy w cls before e k q).values.length :=
 f0t (jn3 w cls q) (jn3 _ 0 q)
theorem j0o (q:Pc) (cls before e k:Nat) (lay:Bool) (w:Ms):w.values.length<=(jmo q cls before e k lay w).2.values.length:=by
 rw[j2k]
 cases lay with
 | true=>exact f0t (j0n { w with cur:=k } _) (jvc _ _ _ _ _ _)
 | false=>exact jvc { w with cur:=k } _ _ _ _ _
theorem Wok.le {w:Ms} {M:Nat} (wk:Wok w N) (h:N<=M):Wok w M:=⟨wk.m1,wk.m2,wk.vals,wk.known,wk.cur,f0t wk.nv h,f0t wk.nb h,f0t wk.nk h,fun b hb=>by have:=wk.ni b hb;omega,f0t wk.na h⟩
theorem Wok.fork {w:Ms} (wk:Wok w N) (pc:Pc):Wok (jeu w pc) (N+100):=by
 have hl:=jwt (n:=pc.c) (m:=2) (by omega)
 have wk1:=wk.lay pc
 have gl:=jhp w pc
 obtain⟨w1,e1⟩:∃ w1,w1=jcu w pc:=⟨_,rfl⟩
 rw[←e1] at wk1 gl
 have wk4:=((wk1.block [] (by simp) (by simp)).block [] (by simp) (by simp)).block [pk pc.c 2,0] (by simp) (by simp;omega)
 have b3:(jad (jad (jad w1 []) []) [pk pc.c 2,0]).blocks.length=w1.blocks.length+3:=by simp[jad]
 have p3:pr (jad (jad (jad w1 []) []) [pk pc.c 2,0]) (w1.blocks.length+2)=some (List.range' (w1.values.length) 2):=by
  unfold pr jad
  simp
 have v3:(jad (jad (jad w1 []) []) [pk pc.c 2,0]).known=w1.known:=rfl
 have n3:(jad (jad (jad w1 []) []) [pk pc.c 2,0]).values.length=w1.values.length+2:=by simp[jad]
 generalize e4:jad (jad (jad w1 []) []) [pk pc.c 2,0]=w4 at *
 have wk6:=(wk4.edge w1.cur w1.blocks.length []).edge w1.cur (w1.blocks.length+1) []
 have g5:=jdc w4 w1.cur w1.blocks.length []
 have g6:=jdc (jan w4 w1.cur w1.blocks.length []) w1.cur (w1.blocks.length+1) []
 have p6:pr (jan (jan w4 w1.cur w1.blocks.length []) w1.cur (w1.blocks.length+1) []) (w1.blocks.length+2)=some (List.range' (w1.values.length) 2):=by rw[jqb,jqb,p3]
 have n6:(jan (jan w4 w1.cur w1.blocks.length []) w1.cur (w1.blocks.length+1) []).values=w4.values:=rfl
 obtain⟨w6,e6⟩:∃ w6,w6=jan (jan w4 w1.cur w1.blocks.length []) w1.cur (w1.blocks.length+1) []:=⟨_,rfl⟩
 rw[←e6] at wk6 g6 p6 n6
 have hkn:w6.known.length=w1.known.length:=by rw[g6.1,g5.1,v3]
 have l8:=j0h (q:=pc) (cls:=pk pc.c 2) (before:=w1.known.length) (e:=w1.blocks.length+2) (k:=w1.blocks.length) (lay:=true) (w:=w6) (by omega)
 have wk8:=wk6.way pc (pk pc.c 2) w1.known.length (w1.blocks.length+2) w1.blocks.length true (by omega)
 have p8:=(j3r pc (pk pc.c 2) w1.known.length (w1.blocks.length+2) w1.blocks.length true w6 (w1.blocks.length+2)).trans p6
 have n8:=j0o pc (pk pc.c 2) w1.known.length (w1.blocks.length+2) w1.blocks.length true w6
 obtain⟨x,ex⟩:∃ x,x=jmo pc (pk pc.c 2) w1.known.length (w1.blocks.length+2) w1.blocks.length true w6:=⟨_,rfl⟩
 rw[←ex] at l8 wk8 p8 n8
 have l9:=j0h (q:=x.1) (cls:=pk pc.c 2) (before:=w1.known.length) (e:=w1.blocks.length+2) (k:=w1.blocks.length+1) (lay:=decide (pk pc.flags 2=1)) (w:=x.2) (by omega)
 have wk9:=wk8.way x.1 (pk pc.c 2) w1.known.length (w1.blocks.length+2) (w1.blocks.length+1) (decide (pk pc.flags 2=1)) (by omega)
 have p9:=(j3r x.1 (pk pc.c 2) w1.known.length (w1.blocks.length+2) (w1.blocks.length+1) (decide (pk pc.flags 2=1)) x.2 (w1.blocks.length+2)).trans p8
 have n9:=j0o x.1 (pk pc.c 2) w1.known.length (w1.blocks.length+2) (w1.blocks.length+1) (decide (pk pc.flags 2=1)) x.2
 obtain⟨y,ey⟩:∃ y,y=jmo x.1 (pk pc.c 2) w1.known.length (w1.blocks.length+2) (w1.blocks.length+1) (decide (pk pc.flags 2=1)) x.2:=⟨_,rfl⟩
 rw[←ey] at l9 wk9 p9 n9
 obtain⟨blk,hblk,hpar⟩:=f0a.1 p9
 have hfin:jeu w pc={ y.2 with cur:=w1.blocks.length+2,known:=y.2.known++blk.params }:=by
  have h1:jeu w pc={ y.2 with cur:=w1.blocks.length+2,known:=y.2.known++(y.2.blocks.getD (w1.blocks.length+2) ⟨[],[],[]⟩).params }:=by
   subst ey ex e6 e4 e1
   rfl
  rw[h1,f0c,hblk,f2o]
 rw[hfin]
 refine((wk9.setcur (j:=w1.blocks.length+2) (by omega)).params (l:=blk.params) (fun v hv=>?_) (by rw[hpar];simp)).le (by omega)
 rw[hpar] at hv
 have h1:=(f2m.1 hv).2
 have h2:w6.values.length=w1.values.length+2:=by rw[n6,n3]
 show v<y.2.values.length
 omega
theorem Wok.mloop {w:Ms} (wk:Wok w N) (pc:Pc):Wok (jfo w pc) (N+100):=by
 have hl:=jwt (n:=pc.c) (m:=2) (by omega)
 have wk1:=wk.new (pk pc.c 2) pc
 obtain⟨v,ev⟩:∃ v,v=jac w (pk pc.c 2) pc:=⟨_,rfl⟩
 rw[←ev] at wk1
 have wk2:=wk1.new 0 pc
 obtain⟨u,eu⟩:∃ u,u=jac v.2 0 pc:=⟨_,rfl⟩
 rw[←eu] at wk2
 have wk3:=wk2.block [pk pc.c 2,0] (by simp) (by simp;omega)
 have b3:(jad u.2 [pk pc.c 2,0]).blocks.length=u.2.blocks.length+1:=by simp[jad]
 have p3:pr (jad u.2 [pk pc.c 2,0]) u.2.blocks.length=some (List.range' u.2.values.length 2):=by
  unfold pr jad
  simp
 have n3:(jad u.2 [pk pc.c 2,0]).values.length=u.2.values.length+2:=by simp[jad]
 generalize e3:jad u.2 [pk pc.c 2,0]=w3 at *
 have wk4:=wk3.edge w3.cur u.2.blocks.length [v.1,u.1]
 have g4:=jdc w3 w3.cur u.2.blocks.length [v.1,u.1]
 have p4:=(jqb w3 w3.cur u.2.blocks.length [v.1,u.1] u.2.blocks.length).trans p3
 have n4:(jan w3 w3.cur u.2.blocks.length [v.1,u.1]).values=w3.values:=rfl
 generalize e4:jan w3 w3.cur u.2.blocks.length [v.1,u.1]=w4 at *
 obtain⟨blk,hblk,hpar⟩:=f0a.1 p4
 have wk5:=wk4.setcur (j:=u.2.blocks.length) (by omega)
 have wk7:Wok { w4 with cur:=u.2.blocks.length,known:=w4.known++blk.params } _:=wk5.params (l:=blk.params) (fun v hv=>by
  rw[hpar] at hv
  have:=(f2m.1 hv).2
  show v<w4.values.length
  rw[n4,n3];exact this) (by rw[hpar];simp)
 obtain⟨w7,ew7⟩:∃ w7:Ms,w7={ w4 with cur:=u.2.blocks.length,known:=w4.known++blk.params }:=⟨_,rfl⟩
 rw[←ew7] at wk7
 have l7:w7.blocks.length=w4.blocks.length:=by rw[ew7]
 have wk9:=wk7.lay { pc with flags:=Ms.odd pc.flags }
 have g9:=jhp w7 { pc with flags:=Ms.odd pc.flags }
 obtain⟨w9,e9⟩:∃ w9,w9=jcu w7 { pc with flags:=Ms.odd pc.flags }:=⟨_,rfl⟩
 rw[←e9] at wk9 g9
 have wkB:=(wk9.block [] (by simp) (by simp)).block [] (by simp) (by simp)
 have bB:(jad (jad w9 []) []).blocks.length=w9.blocks.length+2:=by simp[jad]
 generalize eB:jad (jad w9 []) []=wB at *
 have wkD:=(wkB.edge u.2.blocks.length w9.blocks.length []).edge u.2.blocks.length (w9.blocks.length+1) []
 have gC:=jdc wB u.2.blocks.length w9.blocks.length []
 have gD:=jdc (jan wB u.2.blocks.length w9.blocks.length []) u.2.blocks.length (w9.blocks.length+1) []
 obtain⟨wD,eD⟩:∃ wD,wD=jan (jan wB u.2.blocks.length w9.blocks.length []) u.2.blocks.length (w9.blocks.length+1) []:=⟨_,rfl⟩
 rw[←eD] at wkD gD
 have wkH:=(wkD.setcur (j:=w9.blocks.length) (by omega)).lay { pc with flags:=Ms.odd pc.flags,a:=inc pc.a,op:=inc pc.op }
 have gH:=jhp { wD with cur:=w9.blocks.length } { pc with flags:=Ms.odd pc.flags,a:=inc pc.a,op:=inc pc.op }
 have wkI:=wkH.new (pk pc.c 2) { pc with flags:=Ms.odd pc.flags,a:=inc pc.a,op:=inc pc.op }
 have gI:=jel (jcu { wD with cur:=w9.blocks.length } { pc with flags:=Ms.odd pc.flags,a:=inc pc.a,op:=inc pc.op }) (pk pc.c 2) { pc with flags:=Ms.odd pc.flags,a:=inc pc.a,op:=inc pc.op }
 obtain⟨x,ex⟩:∃ x,x=jac (jcu { wD with cur:=w9.blocks.length } { pc with flags:=Ms.odd pc.flags,a:=inc pc.a,op:=inc pc.op }) (pk pc.c 2) { pc with flags:=Ms.odd pc.flags,a:=inc pc.a,op:=inc pc.op }:=⟨_,rfl⟩
 rw[←ex] at wkI gI
 have wkJ:=wkI.new 0 { pc with flags:=Ms.odd pc.flags,a:=inc pc.a,op:=inc pc.op }
 have gJ:=jel x.2 0 { pc with flags:=Ms.odd pc.flags,a:=inc pc.a,op:=inc pc.op }
 obtain⟨y,ey⟩:∃ y,y=jac x.2 0 { pc with flags:=Ms.odd pc.flags,a:=inc pc.a,op:=inc pc.op }:=⟨_,rfl⟩
 rw[←ey] at wkJ gJ
 have wkK:=wkJ.edge w9.blocks.length u.2.blocks.length [x.1,y.1]
 have gK:=jdc y.2 w9.blocks.length u.2.blocks.length [x.1,y.1]
 obtain⟨wK,eK⟩:∃ wK,wK=jan y.2 w9.blocks.length u.2.blocks.length [x.1,y.1]:=⟨_,rfl⟩
 rw[←eK] at wkK gK
 have hfin:jfo w pc={ wK with known:=wK.known.take w9.known.length,cur:=w9.blocks.length+1 }:=by
  have hp:(w4.blocks.getD u.2.blocks.length ⟨[],[],[]⟩).params=blk.params:=by rw[f0c,hblk,f2o]
  rw[←hp] at ew7
  subst eK ey ex eD eB e9 ew7 e4 e3 eu ev
  rfl
 rw[hfin]
 have lH:({ wD with cur:=w9.blocks.length }:Ms).blocks.length=w9.blocks.length+2:=by
  show wD.blocks.length=_
  rw[gD.2,gC.2,bB]
 exact((wkK.take (j:=w9.known.length)).setcur (j:=w9.blocks.length+1) (by show _<wK.blocks.length;rw[gK.2,gJ.2,gI.2,gH.2,lH];omega)).le (by omega)
theorem Wok.piece {w:Ms} (wk:Wok w N) (pc:Pc):Wok (jgb w pc) (N+100):=by
 unfold jgb
 simp only
 split
 .exact wk.fork pc
 .split
  .exact wk.mloop pc
  .split
   .exact (wk.lay pc).le (by omega)
   .exact wk.le (by omega)
end Go.Proofs.Ytbogkjjoigfbjaa.Ev
