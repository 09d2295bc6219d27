/- Code of functions as the interpreter has it prepared, cut at loops. -/
import Derived.Test.YtbogkjjoigfbjaaMc4
import Derived.Test.YtbogkjjoigfbjaaKh
import Derived.Test.YtbogkjjoigfbjaaK1
namespace Go.Proofs.Ytbogkjjoigfbjaa.Ev
noncomputable section
open Go Go.RowKit
set_option linter.all false
set_option maxRecDepth 100000
def j33:IC:=qr [qQ 2 (.mv (.c (.s (.bool false))))] (qr [qM 0,qA (.call 12 [qa,qC 9]),qP (.bin .add (qC 1) qa),qA (.call 15 [qa]),qB 9 (.new 26 [.nilSlice,.nilSlice]),qA (.store 2 qa qb)] (qr [qF 1 9,qL,qP (.build [.int .i64 0,.nilSlice] [(0,(1,qC 1))]),qA (.bslice 52 2 [.int .i64 0,.nilSlice] 1 [(0,(2,qa))]),qP (.ixs 3 qc (qC 0)),qG 2,qA (.store 1 qa qc)] (qr [qF 1 9,qL,qP (.build [.int .i64 0,.nilSlice] [(0,(1,qC 1))]),qA (.bslice 52 2 [.int .i64 0,.nilSlice] 1 [(0,(2,qa))]),qP (.build [.nilSlice,.nilSlice,.nilSlice] [(2,(1,qa))]),qA (.bslice 36 3 [.nilSlice,.nilSlice,.nilSlice] 1 [(0,(3,qa))]),qA (.app 36 3 72 (.l 4) qa),qF 1 9,qA (.store 1 qa qb)] (qr [qM 1,qA (.call 12 [qa,qC 5000]),qT 8] (.seq (.draw [(qA (.load 2 true (.g 9)),.some []),(qA (.call 16 []),.some [0]),(qM 8,.none),(qA (.call 13 [qc,qb,qC 1,qa]),.none),(qP (.mv qa),.none),(qP (.ext 0 qa),.none),(qP (.ext 1 qb),.none),(qQ 4 (.mv qb),.none),(qQ 7 (.mv qb),.none)]) (.seq (.draw [(qA (.load 2 true (.g 9)),.some []),(qA (.call 16 []),.some [0]),(qA (.call 13 [qb,qa,qC 1,qC (-1)]),.none),(qP (.mv qa),.none),(qP (.ext 0 qa),.none),(qP (.ext 1 qb),.none),(qP (.mv qb),.none),(qQ 6 (.mv qb),.none)]) (.seq (.draw [(qA (.load 2 true (.g 9)),.some []),(qA (.call 16 []),.some [0]),(qA (.call 13 [qb,qa,qC 1,qC 5000]),.none),(qP (.mv qa),.none),(qP (.ext 0 qa),.none),(qP (.ext 1 qb),.none),(qQ 3 (.mv qb),.none),(qQ 5 (.mv qb),.none)]) (qr [qM 7,qP (.bin .eq qa (qC 0)),qP (.mv qa),qR 0 true (.mv (.g 6)),qR 1 true (.bin .eq qa (qC 2)),qP (.pick qc qa (.c (.s (.bool false)))),qP (.mv qa),qR 0 true (.mv (.g 5)),qR 1 true (.bin .eq qa (qC 0)),qP (.pick qc qa (.c (.s (.bool false)))),qP (.mv qa),qR 0 true (.mv (.g 4)),qR 1 true (.len qa),qR 2 true (.mv (.g 8)),qR 3 true (.bin .sub qa (qC 1)),qR 4 true (.fld 0 (.g 9)),qS 5 true (.load 1 false qa),qR 6 true (.len qa),qR 7 true (.mm false qd qa),qR 8 true (.mm true qa (qC 0)),qR 9 true (.bin .eq (.l 7) qa),qP (.pick (.l 10) qa (.c (.s (.bool false)))),qP (.mv qa),qR 0 true (.mv (.g 3)),qR 1 true (.len qa),qR 2 true (.fld 0 (.g 9)),qS 3 true (.load 1 false qa),qR 4 true (.len qa),qR 5 true (.bin .eq qd qa),qP (.pick (.l 6) qa (.c (.s (.bool false)))),qT 2] .ret))))))))
theorem qar:T 6=some (.mk j33 2 8 [(.tmp 2)]):=by kernel_rfl
open Go Go.RowKit Go.Proofs.Ytbogkjjoigfbjaa.Ms
variable {x:AV} {c:Nat}
set_option maxHeartbeats 4000000
def lnE (c:Nat):Fc:=⟨(lnF (c+1)).values,[⟨[],(List.range (c+1)).map lnI,[⟨1,[]⟩]⟩,⟨[],[],[⟨1,[]⟩]⟩]⟩
theorem j6i:j83 F0 4000 16 [] (.agg [si 10,si 10])=true:=by kernel_rfl
theorem j6j:up 9 (fun c=>j83 F0 4000 11 [.agg (jw4 (lnE c)),.agg [si 10,si 10]] (vi 0))=true:=by kernel_rfl
theorem j8k (c:Nat):(lnE c).blocks.getD 0 jdd=⟨[],(List.range (c+1)).map lnI,[⟨1,[]⟩]⟩:=rfl
theorem j8l (c:Nat):(lnE c).blocks.getD 1 jdd=⟨[],[],[⟨1,[]⟩]⟩:=rfl
theorem jn5 (c:Nat) (seed:Int):∀ n vs,goS (lnE c) seed n 1 0 vs 0=[]
 | 0,_=>rfl
 | n+1,vs=>by
  unfold goS
  rw[j8l]
  exact jn5 c seed n _
theorem jvz (c:Nat) (seed:Int):∀ n i vs e,i<=c+1->(i=c+1->e=0)->(goS (lnE c) seed n 0 i vs e).length=min n (c+1 - i)
 | 0,i,vs,e,_,_=>by simp[goS]
 | n+1,i,vs,e,hi,he=>by
  unfold goS
  rw[j8k]
  by_cases h:i<c+1
  .have hx:((List.range (c+1)).map lnI)[i]?=some (lnI i):=by simp[h]
   simp only[hx]
   rw[f08,jvz c seed n (i+1) _ _ (by omega) (fun h2=>by
    show jb9 seed _ i (lnI i) _=0
    unfold jb9
    rw[if_neg (by simp;omega),if_neg (by simp),if_pos (by simp)])]
   omega
  .have hx:((List.range (c+1)).map lnI)[i]?=none:=by simp;omega
   obtain rfl:=he (by omega)
   simp only[hx]
   show(goS (lnE c) seed n 1 0 _ 0).length=_
   rw[jn5]
   simp;omega
theorem j06 (c k:Nat) (seed:Int):(jvf (lnE c) seed k).length=min (k - 1) (c+1):=by
 cases k with
 | zero=>simp[jvf]
 | succ n=>show(goS (lnE c) seed n 0 0 _ 0).length=_;rw[jvz c seed n 0 _ _ (by omega) (fun h=>by omega)];simp
theorem j8m (hc:c<9):RnOk (lnE c):=by
 have hv:(lnE c).values.length=c+1:=by simp[lnE,lnF]
 have hb:∀ b∈(lnE c).blocks,b=⟨[],(List.range (c+1)).map lnI,[⟨1,[]⟩]⟩∨b=⟨[],[],[⟨1,[]⟩]⟩:=fun b hb=>by
  have:b∈[(⟨[],(List.range (c+1)).map lnI,[⟨1,[]⟩]⟩:Ms.Blk),⟨[],[],[⟨1,[]⟩]⟩]:=hb
  simpa using this
 refine⟨by omega,show 2<=16 by decide,fun b h=>?_,fun b h h1=>?_,fun b h d hd=>?_,fun b h x hx=>?_⟩
 .rcases hb b h with rfl | rfl
  .exact ⟨show 0<=5 by decide,(by simp;omega),show 1<=3 by decide⟩
  .exact ⟨show 0<=5 by decide,show 0<=40 by decide,show 1<=3 by decide⟩
 .rcases hb b h with rfl | rfl
  .simp at h1
  .simp at h1
 .have e:d=⟨1,[]⟩:=by rcases hb b h with rfl | rfl<;>simpa using hd
  subst e
  exact⟨⟨[],[],[⟨1,[]⟩]⟩,rfl,rfl,(fun v hv=>by cases hv),(fun v hv=>by cases hv)⟩
 .rcases hb b h with rfl | rfl
  .obtain ⟨i,hi,rfl⟩:=List.mem_map.1 hx
   have hi':i<c+1:=List.mem_range.1 hi
   refine⟨by show i % 256<=255;omega,(by unfold lnI;split<;>simp),fun o ho=>?_⟩
   simp only[lnI,f0i] at ho
   rw[hv]
   rcases ho with ho | ho
   .split at ho
    .cases ho
    .have:o=⟨1,i - 1,false,1,0⟩:=by simpa using ho
     subst this;show i - 1<c+1;omega
   .have:o=⟨2,i,true,1,0⟩:=by simpa using ho
    subst this;exact hi'
  .cases hx
def qa8 (f:FuncId):Bool:=Nat.beq f 13
def j07:Fns:=PX qa8 F16
theorem j8n {A:Nat->Int}:Env Try.prog A tys j07:=ju6 qap
theorem qas {g:FuncId} (h1:qa8 g=false) (h15:S15 g=false) (h16:S16 g=false) {vs:List AV} {h:Hp}:jf8 j07 g vs h=jf8 KB g vs h:=(jes h1).trans ((jes h16).trans (jes h15))
section
variable {h:Hp} {Q:AV->Hp->Prop}
theorem jr0 {n k:Int} (h1:-9223372036854775808<=n) (h2:n<=9223372036854775807) (hm:0<k) (hm2:k<=9223372036854775807):WC j07 12 [vi n,vi k] h Q=Q (vi (pick n k)) h:=jb8 ((qas rfl rfl rfl).trans (jlj rfl rfl (jt0 h1 h2 hm hm2)))
theorem j8o:WC j07 16 [] h Q=Q (.agg [si 10,si 10]) h:=jb8 ((qas rfl rfl rfl).trans (jlj rfl rfl (j0u j6i)))
theorem j34 (hc:c<9):WC F16 11 [.agg [jbj jgy (lnE c).values,jbj jfp (lnE c).blocks],.agg [si 10,si 10]] h Q=Q (vi 0) h:=jb8 ((jes rfl).trans ((jes rfl).trans (jlj rfl rfl (j0u (j3i j6j c hc)))))
theorem j35 (hc:c<9) (hg:jx6 x=false) (hz:jib true h 4 x=some (.agg (jw4 (lnE c)))) {k:Nat} (hk:k<=5000):WC j07 13 [x,.agg [si 10,si 10],vi 1,vi k] h Q=Q (j6s (jvf (lnE c) 1 k)) h:=by
 have p:jjm false F16 13 [.agg (jw4 (lnE c)),.agg [si 10,si 10],vi 1,vi k] (j6s (jvf (lnE c) 1 k)):=j6h (m:=(10,10)) jrk (j8m hc) (by simp[lnE]) (fun h Q=>j34 hc) (by unfold In6;omega) hk
 have z:jie true h 4 [x,.agg [si 10,si 10],vi 1,vi k]=some [.agg (jw4 (lnE c)),.agg [si 10,si 10],vi 1,vi k]:=by
  show ob (jib true h 4 x) (fun y=>ob (jie true h 4 [.agg [si 10,si 10],vi 1,vi k]) (fun r=>some (y::r)))=_
  rw[hz];rfl
 have g:jhh [x,.agg [si 10,si 10],vi 1,vi k]=false:=by
  show oif (jx6 x) _ false=false
  rw[hg];rfl
 exact jb8 (jlk rfl g ⟨_,4,z,p⟩)
end
attribute [local go_sem] Int.reduceToNat reduceCtorEq Nat.reduceAdd Nat.reduceMul Nat.reduceEqDiff Int.reduceEq Int.reduceLT Int.reduceLE Int.reduceNeg Int.reduceAdd Int.reduceSub Int.reduceMul Int.reduceNe
attribute [local go_sem ↓] reduceIte
def seH (a I:SV) (bb:Nat) (h:Hp):Hp :=
 ((((((((h.push (.arr [.nilSlice,.nilSlice] 26)).put h.next (some (.arr [a,.slice bb 0 1 1 true 3] 26))).push (.arr [.int .i64 1,.nilSlice] 52)).put bb (some (.arr [.nilSlice,I,.slice (h.next+1) 0 1 1 true 2] 36))).push (.arr [.int .i64 1,.nilSlice] 52)).push (.arr [.nilSlice,.nilSlice,.slice (h.next+2) 0 1 1 true 2] 36)).push
  (.arr [.nilSlice,I,.slice (h.next+1) 0 1 1 true 2,.nilSlice,.nilSlice,.slice (h.next+2) 0 1 1 true 2] 36)).put h.next (some (.arr [a,.slice (h.next+4) 0 2 2 false 3] 26)))
def okB:Hp->Bool
 | .mk n t lo hid=>Nat.beq lo 0&&(hid.isEmpty&&Nat.ble 1 n)
def j20 (c:Nat) (v:AV) (h:Hp):Bool:=match v with
 | .agg [.slice na oa la ma ea sa,.slice bb 0 1 1 true 3]=>Nat.beq la (Nat.succ c)&&(match h.get bb with
  | some (.arr [.nilSlice,I,.nilSlice] ty)=>Nat.beq ty 36&&(Nat.ble 1 bb&&(Nat.blt bb h.next&&(okB h&&(match jib true (seH (.slice na oa la ma ea sa) I bb h) 4 (.agg [.slice na oa la ma ea sa,.slice (h.next+4) 0 2 2 false 3]) with
   | some u=>eqA u (.agg (jw4 (lnE c)))
   | none=>false))))
  | _=>false)
 | _=>false
theorem j21 {v:AV} {h:Hp} (k:j20 c v h=true):∃ a I bb,v=.agg [a,.slice bb 0 1 1 true 3]/\js2 (.s a)=some (vi ((c+1:Nat):Int))/\grd a=false/\h.get bb=some (.arr [.nilSlice,I,.nilSlice] 36)/\1<=bb/\bb<h.next/\Ok h/\jib true (seH a I bb h) 4 (.agg [a,.slice (h.next+4) 0 2 2 false 3])=some (.agg (jw4 (lnE c))):=by
 unfold j20 at k
 split at k
 .rename_i na oa la ma ea sa bb
  simp only[f0r] at k
  obtain⟨k0,k⟩:=k
  obtain rfl:la=c+1:=f0g k0
  split at k
  .rename_i I ty hg
   simp only[f0r] at k
   obtain⟨k1,k2,k3,k4,k5⟩:=k
   obtain rfl:ty=_:=f0g k1
   refine⟨_,I,bb,rfl,rfl,rfl,hg,f0d k2,f0d k3,?_,?_⟩
   .obtain ⟨n,t,lo,hid⟩:=h
    simp only[okB,f0r,List.isEmpty_iff] at k4
    obtain⟨q1,q2,q3⟩:=k4
    exact⟨q2,f0g q1,f0d q3⟩
   .split at k5
    .rename_i u hu
     rw[hu,jrc _ _ k5]
    .cases k5
  .cases k
 .cases k
def j8p (c:Nat):Bool:=Option.rec (motive:=fun _=>Bool) false (fun p=>j20 c p.1 p.2) (jgd j07 4000 15 [vi ((Nat.succ c:Nat):Int)] h0)
theorem j8q:up 9 j8p=true:=by kernel_rfl
theorem j6k (hc:c<9):WC j07 15 [vi ((c+1:Nat):Int)] h0 (fun v h=>j20 c v h=true):=by
 have h:=j3i j8q c hc
 unfold j8p at h
 cases hr:jgd j07 4000 15 [vi ((Nat.succ c:Nat):Int)] h0 with
 | none=>rw[hr] at h;cases h
 | some p=>rw[hr] at h;exact⟨4000,p.1,p.2,hr,h⟩
theorem j6l (hc:c<9) {h:Hp} (ok:Ok h):WC F16 13 [.agg (jw4 (lnE c)),.agg [si 10,si 10],vi 1,vi (-1)] h (fun v h'=>∃ d,jib false h' d v=some (.tup [(false,[.nilSlice]),(false,[si 2])])):=by
 refine jf9 (j8g rfl rfl rfl) j3y rfl ?_
 unfold jub
 obtain⟨hA,eA,okA,nA,xA,gA⟩:=jrv ok [jbj jgy (lnE c).values,jbj jfp (lnE c).blocks] 26
 obtain⟨hB,eB,okB,nB,xB,gB⟩:=jrv okA [si 10,si 10] 30
 have yA:=(gB _ (by omega)).trans xA
 have wK:=fun(h:Hp) (Q:AV->Hp->Prop)=>j34 (h:=h) (Q:=Q) hc
 have c1:((-1:Int)<0)=True:=eq_true (by omega)
 rw[nA] at xB
 unfold jw4
 simp(disch:=first|omega|rfl) only[go_sem,eA,eB,nA,yA,xB,wK]
 unfold jqg
 simp(disch:=first|omega|rfl) only[go_sem,c1]
 exact⟨2,rfl⟩
theorem j8r (hc:c<9) {h:Hp} {Q:AV->Hp->Prop} (hg:jx6 x=false) (hz:jib true h 4 x=some (.agg (jw4 (lnE c)))):WC j07 13 [x,.agg [si 10,si 10],vi 1,vi (-1)] h Q=Q (.tup [(false,[.nilSlice]),(false,[si 2])]) h:=by
 have z:jie true h 4 [x,.agg [si 10,si 10],vi 1,vi (-1)]=some [.agg (jw4 (lnE c)),.agg [si 10,si 10],vi 1,vi (-1)]:=by
  show ob (jib true h 4 x) (fun y=>ob (jie true h 4 [.agg [si 10,si 10],vi 1,vi (-1)]) (fun r=>some (y::r)))=_
  rw[hz];rfl
 have g:jhh [x,.agg [si 10,si 10],vi 1,vi (-1)]=false:=by
  show oif (jx6 x) _ false=false
  rw[hg];rfl
 exact jb8 (jlk rfl g ⟨_,4,z,j6l hc jrk⟩)
theorem j8s {n q:Int} (hn:In6 n) (hq:In6 q):WC j07 6 [vi n,vi q] h0 (fun v _=>v=.s (.bool true)):=by
 refine jf9 ((qas rfl rfl rfl).trans (kno rfl)) qar rfl ?_
 unfold j33
 have ok:=jrk
 obtain⟨c,hc,ec⟩:∃ c:Nat,c<9/\pick n 9=(c:Int):=⟨pk n 9,jwt (by omega),jtz (m:=9) (by omega)⟩
 obtain⟨k,hk,ek⟩:∃ k:Nat,k<5000/\pick q 5000=(k:Int):=⟨pk q 5000,jwt (by omega),jtz (m:=5000) (by omega)⟩
 have wc:=fun h Q=>jr0 (h:=h) (Q:=Q) (n:=n) (k:=9) hn.1 hn.2 (by omega) (by omega)
 have wk:=fun h Q=>jr0 (h:=h) (Q:=Q) (n:=q) (k:=5000) hq.1 hq.2 (by omega) (by omega)
 rw[ec] at wc
 rw[ek] at wk
 have e1:(1:Int)+(c:Int)=((c+1:Nat):Int):=by omega
 simp(disch:=first|omega|rfl) only[go_sem,jb2,wc,e1]
 refine WC.imp (j6k hc) ?_
 rintro v h hch
 obtain⟨a,I,bb,rfl,la,ga,hg,hb1,hb2,okh,hz⟩:=j21 hch
 obtain⟨hA,eA,okA,nA,xA,gA⟩:=j0p okh [.nilSlice,.nilSlice] [a,.slice bb 0 1 1 true 3] 26
 obtain⟨hB,eB,okB,nB,xB,gB⟩:=jrv okA [.int .i64 1,.nilSlice] 52
 obtain⟨hC,eC,okC,nC,xC,gC⟩:=qa7 okB (b:=bb) hb1 (some (.arr [.nilSlice,I,.slice (h.next+1) 0 1 1 true 2] 36))
 obtain⟨hD,eD,okD,nD,xD,gD⟩:=jrv okC [.int .i64 1,.nilSlice] 52
 obtain⟨hE,eE,okE,nE,xE,gE⟩:=jrv okD [.nilSlice,.nilSlice,.slice (h.next+2) 0 1 1 true 2] 36
 obtain⟨hF,eF,okF,nF,xF,gF⟩:=jrv okE [.nilSlice,I,.slice (h.next+1) 0 1 1 true 2,.nilSlice,.nilSlice,.slice (h.next+2) 0 1 1 true 2] 36
 obtain⟨hG,eG,okG,nG,xG,gG⟩:=qa7 okF (b:=h.next) (by omega) (some (.arr [a,.slice (h.next+4) 0 2 2 false 3] 26))
 have es:seH a I bb h=hG:=by
  unfold seH
  rw[eA,eB,eC,eD,eE,eF,eG]
 rw[es] at hz
 have m1:hA.next=h.next+1:=nA
 have m3:hC.next=h.next+2:=by omega
 have m4:hD.next=h.next+3:=by omega
 have m5:hE.next=h.next+4:=by omega
 have yB:hB.get bb=some (.arr [.nilSlice,I,.nilSlice] 36):=by rw[gB _ (by omega),gA _ (by omega)];exact hg
 have pB:hB.get h.next=some (.arr [a,.slice bb 0 1 1 true 3] 26):=(gB _ (by omega)).trans xA
 have pC:hC.get h.next=some (.arr [a,.slice bb 0 1 1 true 3] 26):=(gC _ (by omega)).trans pB
 have yE:hE.get bb=some (.arr [.nilSlice,I,.slice (h.next+1) 0 1 1 true 2] 36):=by rw[gE _ (by omega),gD _ (by omega)];exact xC
 have pF:hF.get h.next=some (.arr [a,.slice bb 0 1 1 true 3] 26):=by rw[gF _ (by omega),gE _ (by omega),gD _ (by omega)];exact pC
 have eapp:jrm hE 36 3 72 (.s (.slice bb 0 1 1 true 3)) (.s (.slice (h.next+3) 0 1 1 true 3))=some (.s (.slice (h.next+4) 0 2 2 false 3),hF):=by
  show ob (rdB (hE.get (h.next+3)) 0 (1*3)) (fun new=>jr7 hE 36 3 72 1 (.s (.slice bb 0 1 1 true 3)) new)=_
  rw[←m4,xE]
  show jg3 72 2 (jew hE 36 3 bb 0 1 1 true [.nilSlice,.nilSlice,.slice (h.next+2) 0 1 1 true 2])=_
  rw[jjw (by omega) (by omega)]
  show ob (hE.get bb) _=_
  rw[yE]
  show nw hE (jeo [.nilSlice,I,.slice (h.next+1) 0 1 1 true 2] [.nilSlice,.nilSlice,.slice (h.next+2) 0 1 1 true 2]) 36 (fun k h=>Ev.ok (.s (.slice k 0 2 2 false 3)) h)=_
  rw[jrl okE,m5]
  show some (AV.s (.slice (h.next+4) 0 2 2 false 3),hE.push (.arr [.nilSlice,I,.slice (h.next+1) 0 1 1 true 2,.nilSlice,.nilSlice,.slice (h.next+2) 0 1 1 true 2] 36))=_
  rw[eF]
 have gx:jx6 (.agg [a,.slice (h.next+4) 0 2 2 false 3])=false:=by
  show oif (grd a) _ false=false
  rw[ga];rfl
 have s1:=fun Q=>j35 (Q:=Q) hc gx hz (k:=k) (by omega)
 have s2:=fun Q=>j8r (Q:=Q) hc gx hz
 have s3:∀ Q,WC j07 13 [.agg [a,.slice (h.next+4) 0 2 2 false 3],.agg [si 10,si 10],vi 1,vi 5000] hG Q=Q (j6s (jvf (lnE c) 1 5000)) hG:=fun Q=>j35 (Q:=Q) hc gx hz (k:=5000) (by omega)
 have l1:=jbd (enc:=j02) (l:=jvf (lnE c) 1 k)
 have l3:=jbd (enc:=j02) (l:=jvf (lnE c) 1 5000)
 obtain⟨X,eX⟩:∃ X:Nat,(jvf (lnE c) 1 k).length=X:=⟨_,rfl⟩
 have e3:(jvf (lnE c) 1 5000).length=c+1:=by rw[j06];omega
 rw[eX] at l1
 rw[e3] at l3
 rw[j06] at eX
 obtain⟨Y,eY⟩:∃ Y:Int,(if (k:Int) - 1<=((c+1:Nat):Int) then (k:Int) - 1 else ((c+1:Nat):Int))=Y:=⟨_,rfl⟩
 have q1:mmV false (some (vi ((k:Int) - 1))) (some (vi ((c+1:Nat):Int)))=some (vi Y):=by rw[←eY];exact jp9
 have q2:mmV true (some (vi Y)) (some (vi 0))=some (vi (X:Int)):=by
  rw[jqa,←eX,←eY]
  congr 3
  split<;>split<;>omega
 have wb:=fun(h:Hp) (Q:AV->Hp->Prop)=>j8o (h:=h) (Q:=Q)
 simp(disch:=first|omega|rfl) only[go_sem,jb2,eA,xA,m1,eB,hb2,yB,eC,pB,m3,eD,pC,m4,eE,eapp,eF,pF,eG,wk,xG,wb,s1,s2,s3,j6s,l1,l3,la,q1,q2]
end
end Go.Proofs.Ytbogkjjoigfbjaa.Ev
