/- The builders of functions: an instruction. -/
import Derived.Test.YtdbklpgagdbpiaaDoorMa6
namespace Go.Proofs.YtdbklpgagdbpiaaDoor.Ev
open Go Go.RowKit Go.Proofs.YtdbklpgagdbpiaaDoor.Ms
attribute [local go_sem] Int.reduceToNat reduceCtorEq Nat.reduceAdd Nat.reduceMul Nat.reduceEqDiff Int.reduceEq Int.reduceLT Int.reduceLE Int.reduceNeg Int.reduceAdd Int.reduceSub Int.reduceMul Int.reduceNe
attribute [local go_sem ↓] reduceIte
set_option linter.all false
set_option maxRecDepth 100000
set_option maxHeartbeats 2000000
variable {n1 n2 n3:List Nat} {k:SV}
theorem jjz {w:Ms} {p:Pc} {flags:Nat} (hk:∀ v∈w.known,v<w.values.length):∀ (d i:Nat) (s:Iw),w.known≠[]∨d=0->(∀ o∈s.ops,o.value<w.values.length)->(jfu w p flags d i s).ops.length=s.ops.length+d/\∀ o∈(jfu w p flags d i s).ops,o.value<w.values.length
 | 0,i,s,_,h=>⟨rfl,h⟩
 | d+1,i,s,hn,h=>by
  have hn':w.known≠[]:=by
   rcases hn with h | h
   .exact h
   .omega
  have h1:=jjz (p:=p) (flags:=flags) hk d (i+1) (j2z w p flags i s) (.inl hn') (fun o ho=>by
   unfold j2z at ho
   simp only[f0e,f0q] at ho
   rcases ho with ho | rfl
   .exact h o ho
   .have hl:=jgo (n:=Int.tdiv p.a (i+1)) (f1w.2 hn')
    rw[f0f,f0b hl]
    exact hk _ (f2z hl))
  refine⟨?_,h1.2⟩
  have:(j2z w p flags i s).ops.length=s.ops.length+1:=by unfold j2z;simp
  show(jfu w p flags d (i+1) (j2z w p flags i s)).ops.length=_
  omega
theorem qv7 (p:Nat×Nat):g2 p 0=p.1:=rfl
theorem qw1 (p:Nat×Nat):g2 p 1=p.2:=rfl
def Nd (m need:Nat×Nat):Prop:=need.1<m.1/\need.2<m.2
theorem jx9 (m:Nat×Nat) (wish c:Nat) (need fixed:Nat×Nat) (hc:c<2) (k:Nd m need):Nd m (jbc m wish c need fixed).2.2.1:=by
 have hc':c=0∨c=1:=by omega
 unfold jbc
 rcases hc' with rfl | rfl
 .split
  .exact k
  .rename_i h3
   simp only[g2,if_true] at h3
   split<;>(refine⟨?_,k.2⟩;simp[g2,s2];omega)
 .split
  .exact k
  .rename_i h3
   simp only[g2,if_false,Nat.one_ne_zero] at h3
   split<;>(refine⟨k.1,?_⟩;simp[g2,s2];omega)
theorem j3d {w:Ms} {p:Pc} {flags:Nat} (hv:∀ c∈w.values,c<2):∀ (d i:Nat) (s:Iw),Nd w.m s.need->Nd w.m (jfu w p flags d i s).need
 | 0,i,s,h=>h
 | d+1,i,s,h=>j3d hv d (i+1) _ (jx9 _ _ _ _ _ (by
  rw[f0f]
  cases h:w.values[w.known.getD (pk (Int.tdiv p.a (i+1)) w.known.length) 0]? with
  | none=>simp
  | some c=>exact hv c (f0c h)) h)
theorem qjq {p:Pc} {flags uses i:Nat} {x:Iw×Nat×Ms} (h:Nd x.2.2.m x.1.need):Nd x.2.2.m (jfz p flags uses i x).1.need:=by
 unfold jfz
 simp only
 split
 .rename_i h1
  have h2:g2 x.1.need (jg4 p i)+1<g2 x.2.2.m (jg4 p i):=by
   have:=h1.2
   unfold jge at this
   simp only[f0y,decide_eq_true_eq] at this
   exact this.2.2.2.1
  have hc:=jvp (p:=p) (i:=i)
  have hc':jg4 p i=0∨jg4 p i=1:=by omega
  rcases hc' with e | e
  .rw [e] at h2 ⊢;exact⟨h2,h.2⟩
  .rw [e] at h2 ⊢;exact⟨h.1,h2⟩
 .exact jx9 _ _ _ _ _ jvp h
theorem j3e {p:Pc} {flags uses:Nat}:∀ (d i:Nat) (x:Iw×Nat×Ms),Nd x.2.2.m x.1.need->Nd (jek p flags uses d i x).2.2.m (jek p flags uses d i x).1.need/\(jek p flags uses d i x).2.2.m=x.2.2.m
 | 0,i,x,h=>⟨h,rfl⟩
 | d+1,i,x,h=>by
  have e:(jfz p flags uses i x).2.2.m=x.2.2.m:=by unfold jfz;simp only;split<;>rfl
  have h1:=j3e (p:=p) (flags:=flags) (uses:=uses) d (i+1) (jfz p flags uses i x) (by rw[e];exact qjq h)
  exact⟨h1.1,h1.2.trans e⟩
section
variable {F:Fns} (B:Base F)
include B
theorem j9d {h:Hp} {p:Nat} {w:Ms} {ns:List Nat} (ok:Ok h) (r:MR tt h p w ns) {N:Nat} (wk:Wok w N) (hN:N<=90000) (pc:Pc) (pin:Pin pc) :
 WC F 27 [.s (.ptr p 0),.agg (jce pc)] h (fun v h'=>∃ a b n1 n2 ns',v=.agg [si (ja0 w pc).1.op,a,b]/\Sl h' tt.opd 5 false EO a (ja0 w pc).1.ops n1/\Sl h' tt.reg 2 false ER b (ja0 w pc).1.spoils n2/\MR tt h' p (ja0 w pc).2 ns'/\Mv h h' ns ns'/\(n1++n2).Nodup/\(∀ n∈n1++n2,h.next<=n/\n<h'.next/\n∉ns')):=by
 refine ja9 (B.no 27 (by simp) _ _) ((B.T _).trans qdp) rfl ?_
 unfold jx3
 have pin0:=pin
 obtain⟨⟨q1,q2⟩,⟨q3,q4⟩,⟨q5,q6⟩,⟨q7,q8⟩,⟨q9,q10⟩,⟨q11,q12⟩,⟨q13,q14⟩⟩:=pin
 simp(disch:=first|omega|rfl|simp only[List.length]) only[go_sem,jf1,jf2,jf3,jf4,jf5,jb5,jam,jai,jce,jba B]
 obtain⟨H0,eH⟩:∃ H0,H0=(((((h.push (AB.arr [si pc.kind,si pc.op,si pc.a,si pc.b,si pc.c,si pc.limits,si pc.flags] 69)).push (AB.arr [SV.int IntKind.i64 0,SV.nilSlice,SV.nilSlice] 59)).push (AB.arr [SV.int IntKind.i64 0,SV.nilSlice,SV.nilSlice] 59)).put (h.next+2) (some (AB.arr [SV.int IntKind.i64 ↑(pk pc.op 256),SV.nilSlice,SV.nilSlice] 59))).push (AB.arr [SV.int IntKind.i64 0,SV.int IntKind.i64 0] 3)).push (AB.arr [SV.int IntKind.i64 0,SV.int IntKind.i64 0] 3):=⟨_,rfl⟩
 rw[←eH]
 have okH:Ok H0:=by rw[eH];exact ja4 (ja4 (jas (ja4 (ja4 (ja4 ok)))))
 have nH:H0.next=h.next+5:=by rw[eH];rfl
 have gH:∀ n,n<h.next->H0.get n=h.get n:=fun n hn=>by
  rw[eH];simp(disch:=first|omega|rfl|simp only[List.length]) only[Int.reduceToNat,f2b,f2f,f2m,↓reduceIte,decide_eq_true_eq,decide_eq_false_iff_not,f0v,and_true,true_and,f12,f1j,reduceCtorEq,decide_true,decide_false,f3a,f21,f1i,f0z,Option.some.injEq,f2c,Nat.reduceAdd,Nat.reduceMul,Nat.reduceEqDiff,Int.reduceEq,Int.reduceLT,Int.reduceLE,Int.reduceNeg,Int.reduceAdd,Int.reduceSub,Int.reduceMul,Int.reduceNe,not_true_eq_false,not_false_eq_true,Hp.next_push,Hp.next_put,f1r,je7,je8,jcs,jc4,jfp,jd6,jd7,je5,je6,jvc,jk0,jk1,jvd,jk2,jve,jk3,jk4,jk5,jk6,jk7,jk8,jjv,jk9,jla,jhm,jcr,jbg,jj5,jdz,jd0,jj6,jj7,and_false,false_and,if_false]
 have g0:H0.get h.next=some (.arr (jce pc) 69):=by
  rw[eH];simp(disch:=first|omega|rfl|simp only[List.length]) only[Int.reduceToNat,f2b,f2f,f2m,↓reduceIte,decide_eq_true_eq,decide_eq_false_iff_not,f0v,and_true,true_and,f12,f1j,reduceCtorEq,decide_true,decide_false,f3a,f21,f1i,f0z,Option.some.injEq,f2c,Nat.reduceAdd,Nat.reduceMul,Nat.reduceEqDiff,Int.reduceEq,Int.reduceLT,Int.reduceLE,Int.reduceNeg,Int.reduceAdd,Int.reduceSub,Int.reduceMul,Int.reduceNe,not_true_eq_false,not_false_eq_true,Hp.next_push,Hp.next_put,f1r,je7,je8,jcs,jc4,jfp,jd6,jd7,je5,je6,jvc,jk0,jk1,jvd,jk2,jve,jk3,jk4,jk5,jk6,jk7,jk8,jjv,jk9,jla,jhm,jcr,jbg,jj5,jdz,jd0,jj6,jj7,and_false,false_and,if_false];rfl
 have g1:H0.get (h.next+1)=some (.arr [si 0,.nilSlice,.nilSlice] 59):=by
  rw[eH];simp(disch:=first|omega|rfl|simp only[List.length]) only[Int.reduceToNat,f2b,f2f,f2m,↓reduceIte,decide_eq_true_eq,decide_eq_false_iff_not,f0v,and_true,true_and,f12,f1j,reduceCtorEq,decide_true,decide_false,f3a,f21,f1i,f0z,Option.some.injEq,f2c,Nat.reduceAdd,Nat.reduceMul,Nat.reduceEqDiff,Int.reduceEq,Int.reduceLT,Int.reduceLE,Int.reduceNeg,Int.reduceAdd,Int.reduceSub,Int.reduceMul,Int.reduceNe,not_true_eq_false,not_false_eq_true,Hp.next_push,Hp.next_put,f1r,je7,je8,jcs,jc4,jfp,jd6,jd7,je5,je6,jvc,jk0,jk1,jvd,jk2,jve,jk3,jk4,jk5,jk6,jk7,jk8,jjv,jk9,jla,jhm,jcr,jbg,jj5,jdz,jd0,jj6,jj7,and_false,false_and,if_false]
 have g2':H0.get (h.next+2)=some (.arr [si (pk pc.op 256),.nilSlice,.nilSlice] 59):=by
  rw[eH];simp(disch:=first|omega|rfl|simp only[List.length]) only[Int.reduceToNat,f2b,f2f,f2m,↓reduceIte,decide_eq_true_eq,decide_eq_false_iff_not,f0v,and_true,true_and,f12,f1j,reduceCtorEq,decide_true,decide_false,f3a,f21,f1i,f0z,Option.some.injEq,f2c,Nat.reduceAdd,Nat.reduceMul,Nat.reduceEqDiff,Int.reduceEq,Int.reduceLT,Int.reduceLE,Int.reduceNeg,Int.reduceAdd,Int.reduceSub,Int.reduceMul,Int.reduceNe,not_true_eq_false,not_false_eq_true,Hp.next_push,Hp.next_put,f1r,je7,je8,jcs,jc4,jfp,jd6,jd7,je5,je6,jvc,jk0,jk1,jvd,jk2,jve,jk3,jk4,jk5,jk6,jk7,jk8,jjv,jk9,jla,jhm,jcr,jbg,jj5,jdz,jd0,jj6,jj7,and_false,false_and,if_false]
 have g3:H0.get (h.next+3)=some (.arr [si ((0:Nat):Int),si ((0:Nat):Int)] 3):=by
  rw[eH];simp(disch:=first|omega|rfl|simp only[List.length]) only[Int.reduceToNat,f2b,f2f,f2m,↓reduceIte,decide_eq_true_eq,decide_eq_false_iff_not,f0v,and_true,true_and,f12,f1j,reduceCtorEq,decide_true,decide_false,f3a,f21,f1i,f0z,Option.some.injEq,f2c,Nat.reduceAdd,Nat.reduceMul,Nat.reduceEqDiff,Int.reduceEq,Int.reduceLT,Int.reduceLE,Int.reduceNeg,Int.reduceAdd,Int.reduceSub,Int.reduceMul,Int.reduceNe,not_true_eq_false,not_false_eq_true,Hp.next_push,Hp.next_put,f1r,je7,je8,jcs,jc4,jfp,jd6,jd7,je5,je6,jvc,jk0,jk1,jvd,jk2,jve,jk3,jk4,jk5,jk6,jk7,jk8,jjv,jk9,jla,jhm,jcr,jbg,jj5,jdz,jd0,jj6,jj7,and_false,false_and,if_false]
 have g4:H0.get (h.next+4)=some (.arr [si ((0:Nat):Int),si ((0:Nat):Int)] 3):=by
  rw[eH];simp(disch:=first|omega|rfl|simp only[List.length]) only[Int.reduceToNat,f2b,f2f,f2m,↓reduceIte,decide_eq_true_eq,decide_eq_false_iff_not,f0v,and_true,true_and,f12,f1j,reduceCtorEq,decide_true,decide_false,f3a,f21,f1i,f0z,Option.some.injEq,f2c,Nat.reduceAdd,Nat.reduceMul,Nat.reduceEqDiff,Int.reduceEq,Int.reduceLT,Int.reduceLE,Int.reduceNeg,Int.reduceAdd,Int.reduceSub,Int.reduceMul,Int.reduceNe,not_true_eq_false,not_false_eq_true,Hp.next_push,Hp.next_put,f1r,je7,je8,jcs,jc4,jfp,jd6,jd7,je5,je6,jvc,jk0,jk1,jvd,jk2,jve,jk3,jk4,jk5,jk6,jk7,jk8,jjv,jk9,jla,jhm,jcr,jbg,jj5,jdz,jd0,jj6,jj7,and_false,false_and,if_false]
 clear eH
 have hns:∀ n∈ns,n<h.next:=fun n hn=>(r.lt n hn).2
 have hlm:pk pc.limits 1099511627776<1099511627776:=jgo (by omega)
 have I0:Iv h H0 p w ns ns pc ⟨[],pk pc.limits 1099511627776,(0,0),(0,0)⟩ [] .nilSlice .nilSlice [] [] :=
  ⟨okH,by omega,r.keep (fun n hn=>gH n (hns n hn)) (by omega),⟨okH,by omega,fun n hn=>.inl hn,fun n h1 _=>gH n h1⟩,g0,g1,g2',g3,g4,.nil,.nil,fun n hn=>by simp at hn,fun n hn=>.inl (hns n hn),by simpa using r.nodup,⟨by simp,by simp,by simp,by simp⟩,hlm⟩
 obtain⟨d,hd⟩:∃ d,d=if w.known=[] then 0 else pk pc.flags 1073741824 % 4:=⟨_,rfl⟩
 have hd3:d<=3:=by rw[hd];split<;>omega
 refine jx6 B pin0 wk (by omega) d I0 (i:=0) rfl (by rw[hd];split<;>simp) (fun hj ns' xo nso b0 b1 b2 I1 hl1=>?_)
 obtain⟨s1,hs1⟩:∃ s1,jfu w pc (pk pc.flags 1073741824) d 0 ⟨[],pk pc.limits 1099511627776,(0,0),(0,0)⟩=s1:=⟨_,rfl⟩
 have hf1:=jjz (p:=pc) (flags:=pk pc.flags 1073741824) wk.known d 0 ⟨[],pk pc.limits 1099511627776,(0,0),(0,0)⟩ (by
  by_cases h0:w.known=[]
  .right;rw[hd,if_pos h0]
  .exact .inl h0) (fun o ho=>by simp at ho)
 have hnd1:Nd w.m s1.need:=by
  rw[←hs1];exact j3d wk.vals d 0 _ ⟨by have:=wk.m1;simp only;omega,by have:=wk.m2;simp only;omega⟩
 rw[hs1] at I1 hl1 hf1 ⊢
 have x1:=I1.hx
 have sl1:=I1.so.len
 simp(disch:=first|omega|rfl|simp only[List.length]) only[go_sem,x1,sl1]
 have hrz:(-1:Int)=rz s1.ops.length s1.ops.length:=by unfold rz;rw[if_pos rfl]
 rw[hrz]
 refine jx8 B pin0 (uses:=s1.ops.length) (by omega) (1+pk pc.flags 1073741824 / 2 ^ 8 % 2) wk (by omega) I1 (i:=0) (rd:=s1.ops.length) (by omega) (by omega) hf1.2 (by omega) (fun hj2 ns2 xo2 nso2 y9 y10 y11 y12 y13 y14 y16 y17 y18 I2 wk2 hm2=>?_)
 obtain⟨y,hy⟩:∃ y,jek pc (pk pc.flags 1073741824) s1.ops.length (1+pk pc.flags 1073741824 / 2 ^ 8 % 2) 0 (s1,s1.ops.length,w)=y:=⟨_,rfl⟩
 have hnd2:=(j3e (p:=pc) (flags:=pk pc.flags 1073741824) (uses:=s1.ops.length) (1+pk pc.flags 1073741824 / 2 ^ 8 % 2) 0 (s1,s1.ops.length,w) hnd1).1
 rw[hy] at I2 wk2 hm2 hnd2 ⊢
 have hfl:pk pc.flags 1073741824<1073741824:=jgo (by omega)
 have hf12:pk pc.flags 1073741824 / 2 ^ 12<1073741824:=by have:=f3j (pk pc.flags 1073741824) (2 ^ 12);omega
 have hI:ja0 w pc=(⟨pk pc.op 256,y.1.ops,jho y.2.2 pc (pk pc.flags 1073741824) y.1.need⟩,y.2.2):=by
  unfold ja0
  have e1:(2:Nat) ^ 30=1073741824:=rfl
  have e2:(2:Nat) ^ 40=1099511627776:=rfl
  have e3:∀ n,jho y.2.2 pc (pk pc.flags 1073741824) n=jho w pc (pk pc.flags 1073741824) n:=fun n=>by unfold jho;rw[hm2]
  simp only[e1,e2,←hd,hs1,hy,e3]
 have fin:∀ {hk:Hp} {sp:List (Nat×Nat)} {xs:SV} {nss:List Nat} {x3 x4 x5 x6 x7 x8 x19 x24 a0 a3:AV},sp=jho y.2.2 pc (pk pc.flags 1073741824) y.1.need->Iv h hk p y.2.2 ns ns2 pc y.1 sp xo2 xs nso2 nss->W F jm6 (.mk (frE h p pc x3 x4 x5 x6 x7 x8 y9 y10 y11 y12 y13 y14 (vi ↑s1.ops.length) y16 y17 y18 x19 a0 x24 b1 b2 a3) hk) (qc5 [IR.cell 2 3 true] fun v h'=>∃ a b n1 n2 ns',v=.agg [si (ja0 w pc).1.op,a,b]/\Sl h' tt.opd 5 false EO a (ja0 w pc).1.ops n1/\Sl h' tt.reg 2 false ER b (ja0 w pc).1.spoils n2/\MR tt h' p (ja0 w pc).2 ns'/\Mv h h' ns ns'/\(n1++n2).Nodup/\(∀ n∈n1++n2,h.next<=n/\n<h'.next/\n∉ns')):=by
  intro hk sp xs nss x3 x4 x5 x6 x7 x8 x19 x24 a0 a3 hsp I
  unfold jm6
  have okk:=I.ok
  have hx:=I.hx
  have hr:=I.hr
  simp(disch:=first|omega|rfl|simp only[List.length]) only[go_sem,hx,hr]
  rw[hI]
  have g5:∀ n,n≠h.next+1->(hk.put (h.next+1) (some (AB.arr [si ↑(pk pc.op 256),xo2,xs] 59))).get n=hk.get n:=fun n hn=>by
   rw[jak okk (by omega),if_neg hn]
  have n5:(hk.put (h.next+1) (some (AB.arr [si ↑(pk pc.op 256),xo2,xs] 59))).next=hk.next:=Hp.next_put _ _ _
  have ok5:Ok (hk.put (h.next+1) (some (AB.arr [si ↑(pk pc.op 256),xo2,xs] 59))):=jas okk
  generalize hk.put (h.next+1) (some (AB.arr [si ↑(pk pc.op 256),xo2,xs] 59))=h5 at g5 n5 ok5 ⊢
  have nx:=I.nx
  have hnd:=f0r.1 I.nd
  refine⟨xo2,xs,nso2,nss,ns2,rfl,I.so.keep (fun n hn=>g5 n (by have:=(I.lo n (by simp[hn])).1;omega)),?_,I.mr.keep (fun n hn=>g5 n (by have:=I.ln n hn;omega)) (by omega),⟨ok5,by omega,I.mv.new,fun n h1 h2=>(g5 n (by omega)).trans (I.mv.keep n h1 h2)⟩,hnd.2.1,fun n hn=>⟨by have:=(I.lo n hn).1;omega,(I.lo n hn).2,fun h1=>hnd.2.2 n h1 n hn rfl⟩⟩
  have:=I.ss.keep (h':=h5) (fun n hn=>g5 n (by have:=(I.lo n (by simp[hn])).1;omega))
  rw[hsp] at this
  exact this
 have hm1:=wk2.m1
 have hm3:=wk2.m2
 by_cases hc:((pk pc.flags 1073741824 / 2 ^ 12:Nat):Int) % 3=0
 .simp (disch:=first|omega|rfl|simp only[List.length]) only[go_sem,jfs,jft,jdo,jdp,jdq,jdr,jjy,jbs,eq_true hc]
  refine js6 B pin0 wk2 (c:=0) (by omega) hnd2.1 I2 (by simp) (fun hj3 xs3 nss3 z3 z4 z5 z6 I3=>?_)
  have hl3:∀ c r k,(jbo c r k).length=k:=fun c r k=>by
   induction k with
   | zero=>rfl
   | succ k ih=>simp[jbo,ih]
  refine js6 B pin0 wk2 (c:=1) (by omega) hnd2.2 I3 (by rw[f1j,hl3,qv7];have:=Nat.min_le_right (pk pc.b 4) (y.2.2.m.1 - 1 - g2 y.1.need 0);omega) (fun hj4 xs4 nss4 w3 w4 w5 w6 I4=>?_)
  rw[jaj]
  unfold jg7
  simp(disch:=first|omega|rfl|simp only[List.length]) only[go_sem]
  refine fin ?_ I4
  unfold jho
  have hc':pk pc.flags 1073741824 / 2 ^ 12 % 3=0:=by omega
  rw[if_pos hc']
  simp only[f1j,qv7,qw1]
 .simp (disch:=first|omega|rfl|simp only[List.length]) only[go_sem,jfs,jft,jdo,jdp,jdq,jdr,jjy,jbs,hc]
  refine fin ?_ I2
  unfold jho
  have hc':¬ pk pc.flags 1073741824 / 2 ^ 12 % 3=0:=by omega
  rw[if_neg hc']
end
theorem jd8 {α:Type} {f:α->α}:∀ {l:List α} {i:Nat} {a:α},l[i]?=some a->l.modify i f=l.set i (f a)
 | [],i,a,h=>by simp at h
 | b::l,0,a,h=>by simp at h;subst h;rfl
 | b::l,i+1,a,h=>by
  have:=jd8 (f:=f) (l:=l) (i:=i) (a:=a) (by simpa using h)
  simp[this]
theorem qjr {α:Type} {R S:List α} {a a':α} {i:Nat} (h:R.length=i):(R++a::S).set i a'=R++a'::S:=by
 subst h;simp
theorem j1h {sz:Nat} {A B:List (List SV)} {row:List SV} {i j:Nat} {v:SV} (hA:A.flatten.length=i*sz) (hj:j<row.length):jbv (i*sz+j) [v] (A++row::B).flatten=some (A++(row.set j v)::B).flatten:=by
 refine(jf7 _).2 ⟨?_,?_⟩
 .simp only[f2w,f1h,f0k,f2n,hA];omega
 .have e1:(A++row::B).flatten=A.flatten++(row.take j++(row.drop j++B.flatten)):=by
   rw[f2w,f1h,←f0l (row.take j),List.take_append_drop]
  have e2:(A++(row.set j v)::B).flatten=A.flatten++(row.take j++(v::(row.drop (j+1)++B.flatten))):=by
   rw[f2w,f1h,List.set_eq_take_append_cons_drop,if_pos hj]
   simp
  have lt:(row.take j).length=j:=by simp;omega
  rw[e1,e2]
  have t1:(A.flatten++(row.take j++(row.drop j++B.flatten))).take (i*sz+j)=A.flatten++row.take j:=by
   rw[←f0l,f2q (by rw[f0k,hA,lt];exact f0d _),List.take_of_length_le (by rw[f0k,hA,lt];exact f0d _)]
  have t2:(A.flatten++(row.take j++(row.drop j++B.flatten))).drop (i*sz+j+1)=row.drop (j+1)++B.flatten:=by
   rw[←f0l,←f0l,f0l (A.flatten++row.take j),List.drop_append]
   have l1:(A.flatten++row.take j).length=i*sz+j:=by rw[f0k,hA,lt]
   rw[l1,f2x (by rw[l1];omega),f1j,show i*sz+j+1 - (i*sz+j)=1 by omega,f2p (by simp;omega),List.drop_drop]
  rw[f2n,t1,t2]
  simp
section
variable {α:Type} {sz ty:Nat} {ex:Bool} {E:List SV->α->List Nat->Prop} {h:Hp} {x:SV} {l:List α} {ns:List Nat}
theorem Sl.upd (k:Sl h ty sz ex E x l ns) {i:Nat} {a:α} (hi:l[i]?=some a):∃ b row ms M1 M2 cells,jza sz (.s x) (vi (i:Int))=some (.s (.ptr b (i*sz)))/\h.get b=some (.arr cells ty)/\rdB (h.get b) (i*sz) sz=some row/\row.length=sz/\E row a ms/\ns=b::(M1++(ms++M2)) /\
 (∀ {j:Nat} {v:SV},j<sz->∃ cells',jbv (i*sz+j) [v] cells=some cells'/\∀ {h':Hp} {E':List SV->α->List Nat->Prop} {a':α} {ms':List Nat},h'.get b=some (.arr cells' ty)->E' (row.set j v) a' ms'->(∀ row a m,(∀ n∈m,n∈M1++M2)->E row a m->E' row a m)->Sl h' ty sz ex E' x (l.set i a') (b::(M1++(ms'++M2)))):=by
 obtain⟨b,row,ms,e1,e2,e3,e4,e5,e6⟩:=k.at hi
 rcases k with⟨rfl,_,_⟩ | ⟨hne,b',rows,nss,rfl,hg,hR,rfl⟩
 .simp at hi
 .have hl:i<l.length:=by
   rcases f0h i l.length with h | h
   .exact h
   .rw [f0p h] at hi;cases hi
  have hb:b=b':=by
   have:=jbg (size:=sz) (b:=b') (off:=0) (len:=l.length) (mc:=l.length) (sz:=sz) (ex:=ex) hl
   rw[this] at e1
   simp only[Option.some.injEq,AV.s.injEq,SV.ptr.injEq] at e1
   exact e1.1.symm
  subst hb
  obtain⟨A,row',B,R,S,ms',M1,M2,rfl,rfl,f3,f4,rfl,f6,f7,f8,f9⟩:=hR.at hi
  have hA:A.flatten.length=i*sz:=by rw[f8.len.2,f4]
  have hrow:row'=row:=by
   rw[hg,jgm,jb8] at e2
   obtain⟨_,h2⟩:=(ja5 _).1 e2
   rw[h2,f2w,f1h,f2p (f2l hA.symm),f2x (f2l hA),f1j,f2q (by omega),←f6,f2e]
  subst hrow
  refine⟨b,row',ms',M1,M2,(A++row'::B).flatten,e1,hg,e2,f6,f7,rfl,fun {j v} hj=>⟨_,j1h hA (by omega),fun {h' E' a' ms''} hg' hE' hkeep=>?_⟩⟩
  refine .inr ⟨by simp,b,A++(row'.set j v)::B,M1++(ms''++M2),by simp,hg',?_,rfl⟩
  rw[qjr f4]
  exact(f8.imp (fun row a m hm=>hkeep row a m (fun n hn=>f1e _ (hm n hn)))).app (.cons (by simp[f6]) hE' (f9.imp (fun row a m hm=>hkeep row a m (fun n hn=>f03 _ (hm n hn)))))
end
def MRk (h:Hp) (p:Nat) (w:Ms) (n1 n2 n3:List Nat):Prop:=∃ a b k,h.get p=some (.arr [si w.m.1,si w.m.2,a,b,si w.cur,k,si w.all] tt.mas)/\Sl h tt.int 1 false EI a w.values n1/\Sl h tt.blk 3 false (EB tt h) b w.blocks n2/\Sl h tt.int 1 false EI k w.known n3/\(p::(n1++(n2++n3))).Nodup/\∀ n∈p::(n1++(n2++n3)),1<=n/\n<h.next
theorem MRk.mr {h:Hp} {p:Nat} {w:Ms} (k:MRk h p w n1 n2 n3):MR tt h p w (p::(n1++(n2++n3))):=by
 obtain⟨a,b,c,h1,h2,h3,h4,h5,h6⟩:=k
 exact⟨⟨a,b,c,n1,n2,n3,h1,h2,h3,h4,rfl⟩,h5,h6⟩
theorem MRk.keep {h h':Hp} {p:Nat} {w:Ms} (k:MRk h p w n1 n2 n3) (hk:∀ n∈p::(n1++(n2++n3)),h'.get n=h.get n) (hn:h.next<=h'.next):MRk h' p w n1 n2 n3:=by
 obtain⟨a,b,c,h1,h2,h3,h4,h5,h6⟩:=k
 exact⟨a,b,c,(hk p (by simp)).trans h1,h2.keep (fun n hn=>hk n (by simp[hn])),h3.imp (fun n hn=>hk n (by simp[hn])) (fun row a ms hm k=>k.keep (fun n hn=>hk n (by simp[hm n hn]))),h4.keep (fun n hn=>hk n (by simp[hn])),h5,fun n hm=>⟨(h6 n hm).1,f0m (h6 n hm).2 hn⟩⟩
theorem MRk.mk_put {h:Hp} {p:Nat} {w':Ms} {a b:SV} (ok:Ok h) (h1:Sl h tt.int 1 false EI a w'.values n1) (h2:Sl h tt.blk 3 false (EB tt h) b w'.blocks n2) (h3:Sl h tt.int 1 false EI k w'.known n3) (hd:(p::(n1++(n2++n3))).Nodup) (lt:∀ n∈p::(n1++(n2++n3)),1<=n/\n<h.next) :
 MRk (h.put p (some (.arr [si w'.m.1,si w'.m.2,a,b,si w'.cur,k,si w'.all] tt.mas))) p w' n1 n2 n3:=by
 have hp:=(lt p (by simp)).1
 have kp:∀ n∈n1++(n2++n3),(h.put p (some (.arr [si w'.m.1,si w'.m.2,a,b,si w'.cur,k,si w'.all] tt.mas))).get n=h.get n:=fun n hn=>by
  rw[jak ok hp,if_neg (fun(e:n=p)=>(f0w.1 hd).1 (e▸hn))]
 refine⟨a,b,k,by rw[jak ok hp,if_pos rfl],h1.keep (fun n hn=>kp n (by simp[hn])),h2.imp (fun n hn=>kp n (by simp[hn])) (fun row a ms hm k=>k.keep (fun n hn=>kp n (by simp[hm n hn]))),h3.keep (fun n hn=>kp n (by simp[hn])),hd,fun n hn=>?_⟩
 rw[Hp.next_put];exact lt n hn
theorem j9e {h:Hp} {p:Nat} {w:Ms} {a b:SV} (ok:Ok h) (hg:h.get p=some (.arr [si w.m.1,si w.m.2,a,b,si w.cur,k,si w.all] tt.mas)) (hv:Sl h tt.int 1 false EI a w.values n1) (hb:Sl h tt.blk 3 false (EB tt h) b w.blocks n2) (hk:Sl h tt.int 1 false EI k w.known n3)
 (hd:(p::(n1++(n2++n3))).Nodup) (hlt:∀ n∈p::(n1++(n2++n3)),1<=n/\n<h.next) (v:Nat) (hn:w.known.length<=100000) :
 ∃ h2,juf (h.push (.arr [si v] 3)) 3 1 8 (.s k) (.s (.slice h.next 0 1 1 true 1))=some (.s (.slice (h.next+1) 0 (w.known.length+1) (w.known.length+1) false 1),h2)/\Ok h2/\h2.next=h.next+2/\h2.get p=some (.arr [si w.m.1,si w.m.2,a,b,si w.cur,k,si w.all] tt.mas) /\
  ∃ hj,hj=h2.put p (some (.arr [si w.m.1,si w.m.2,a,b,si w.cur,.slice (h.next+1) 0 (w.known.length+1) (w.known.length+1) false 1,si w.all] tt.mas))/\MRk hj p { w with known:=w.known++[v] } n1 n2 ((h.next+1)::(n3.tail++[]))/\Mv h hj (p::(n1++(n2++n3))) (p::(n1++(n2++((h.next+1)::(n3.tail++[])))))/\(∀ n,n<h.next->n≠p->n∉n3->hj.get n=h.get n):=by
 have hp:=hlt p (by simp)
 have hdt:=(f0w.1 hd).2
 have hd1:=f0r.1 hdt
 have hd2:=f0r.1 hd1.2.1
 obtain⟨h2,e2,ok2,nx2,kp2,kt2,sl2⟩:=hk.app1 (bytes:=8) (row:=[si v]) (a:=v) (ms:=[]) ok (fun n hn=>hlt n (by simp[hn])) rfl ⟨rfl,rfl⟩ (by omega) (by omega)
 have hp3:p∉n3:=fun hn=>(f0w.1 hd).1 (by simp[hn])
 have hf:h.next+1∉n3:=fun hn=>by have:=(hlt (h.next+1) (by simp[hn])).2;omega
 have k1:∀ n∈n1,h2.get n=h.get n:=fun n hn=>kp2 n (hlt n (by simp[hn])).2 (fun h1=>hd1.2.2 n hn n (by simp[h1]) rfl)
 have k2:∀ n∈n2,h2.get n=h.get n:=fun n hn=>kp2 n (hlt n (by simp[hn])).2 (fun h1=>hd2.2.2 n hn n h1 rfl)
 have nd':(n1++(n2++((h.next+1)::(n3.tail++[])))).Nodup:=by
  have:=jg6 (A:=n1++n2) (B:=[]) (ns:=n3) (N:=h.next) (by simpa using hdt) (fun n hn=>(hlt n (by simp at hn ⊢;exact .inr hn)).2) (jdk hd2.2.1 .nil (by simp) hf (by simp)) (fun n hn=>by
   rcases f0j.1 hn with rfl | hn
   .exact .inr (by omega)
   .exact .inl (f0o (by simpa using hn)))
  simpa[f0l] using this
 have u:=MR.upd (t:=tt) (w':={ w with known:=w.known++[v] }) hd hlt ok.pos ok2 (by omega) (hv.keep k1) (hb.imp k2 (fun row a ms hm k=>k.keep (fun n hn=>k2 n (hm n hn)))) (sl2 (fun _ _ _ _ h=>h)) nd' (fun n hn=>by
  rcases f0e.1 hn with hn | hn
  .exact ⟨.inl (by simp[hn]),by have:=(hlt n (by simp[hn])).2;omega⟩
  .rcases f0e.1 hn with hn | hn
   .exact ⟨.inl (by simp[hn]),by have:=(hlt n (by simp[hn])).2;omega⟩
   .rcases f0j.1 hn with rfl | hn
    .exact ⟨.inr (by omega),by omega⟩
    .have:=f0o (by simpa using hn)
     exact⟨.inl (by simp[this]),by have:=(hlt n (by simp[this])).2;omega⟩) (fun n h1 h3=>kp2 n h1 (fun h4=>h3 (by simp[h4])))
 have gp:∀ n,n≠p->(h2.put p (some (.arr [si w.m.1,si w.m.2,a,b,si w.cur,.slice (h.next+1) 0 (w.known.length+1) (w.known.length+1) false 1,si w.all] tt.mas))).get n=h2.get n:=fun n hn=>by rw[jak ok2 hp.1,if_neg hn]
 refine⟨h2,e2,ok2,nx2,(kp2 p hp.2 hp3).trans hg,_,rfl,?_,u.2,fun n h1 h3 h4=>(gp n h3).trans (kp2 n h1 h4)⟩
 have np:∀ n∈n1++(n2++((h.next+1)::(n3.tail++[]))),n≠p:=fun n hn e=>(f0w.1 u.1.nodup).1 (e▸hn)
 exact⟨a,b,_,by rw[jak ok2 hp.1,if_pos rfl],(hv.keep k1).keep (fun n hn=>gp n (np n (by simp[hn]))),(hb.imp (h':=h2.put p _) (fun n hn=>(gp n (np n (by simp[hn]))).trans (k2 n hn)) (fun row a ms hm k=>k.keep (fun n hn=>(gp n (np n (by simp[hm n hn]))).trans (k2 n (hm n hn))))),(sl2 (E':=EI) (fun _ _ _ _ h=>h)).keep (fun n hn=>gp n (np n (f03 _ (f03 _ hn)))),u.1.nodup,u.1.lt⟩
section
variable {F:Fns} (B:Base F)
include B
theorem jvq {h:Hp} {p:Nat} {ns:List Nat} {ops:List Ms.Opd} {xo:SV} {nso:List Nat} {x1 x10 x8 x9:AV} {Q:Ex->St->Prop}:∀ (rest done:List Ms.Opd) (_:done++rest=ops) {hi:Hp} {w:Ms} {n3:List Nat} (_:Ok hi) (_:MRk hi p w n1 n2 n3) (_:Mv h hi ns (p::(n1++(n2++n3)))) (_:Sl hi 73 5 false EO xo ops nso) (_:∀ n∈nso,n<hi.next/\n≠p/\n∉n3) (_:w.known.length+rest.length<=100000) (_:ops.length<=1000) {x2 x3 x5:AV}
 (hQ:∀ hj ns'' x2 x3 x5,Ok hj->MR tt hj p { w with known:=w.known++((rest.filter (fun o=>o.kind=2)).map (·.value)) } ns''->Mv h hj ns ns''->Q (.exit 0) (.mk [.s (.ptr p 0),x1,x2,x3,.s xo,x5,vi ops.length,vi ops.length,x8,x9,x10] hj)),
 W F jvo.loop (.mk [.s (.ptr p 0),x1,x2,x3,.s xo,x5,vi ops.length,vi done.length,x8,x9,x10] hi) Q
 | [],done,hdn,hi,w,n3,ok,mr,mv,so,lo,hn,hl,x2,x3,x5,hQ=>by
  rw[f1c] at hdn
  subst hdn
  rw[jaj]
  unfold jvo
  simp(disch:=first|omega|rfl|simp only[List.length]) only[go_sem,f0s]
  exact hQ hi _ _ _ _ ok (by simpa using mr.mr) mv
 | o::rest,done,hdn,hi,w,n3,ok,mr,mv,so,lo,hn,hl,x2,x3,x5,hQ=>by
  rw[jaj]
  unfold jvo
  have hlen:done.length<ops.length:=by rw[←hdn];simp
  have hlt1:(done.length:Int)<ops.length:=by omega
  have hget:ops[done.length]?=some o:=by rw[←hdn];simp
  obtain⟨ob1,orow,oms,oe1,oe2,oe3,⟨rfl,rfl⟩,oe5,oe6⟩:=so.at hget
  have hob:=lo ob1 oe6
  have mr0:=mr
  obtain⟨a,b,k,hg,hv,hb,hk,hd,hlt⟩:=mr
  have hp:=hlt p (by simp)
  obtain⟨hA,eA⟩:∃ hA,hA=(hi.push (AB.arr [SV.int IntKind.i64 0,SV.int IntKind.i64 0,SV.bool false,SV.int IntKind.i64 0,SV.int IntKind.i64 0] 73)).put hi.next (some (AB.arr [si ↑o.kind,si ↑o.value,SV.bool o.late,si ↑o.limit,si ↑o.n] 73)):=⟨_,rfl⟩
  have okA:Ok hA:=by rw[eA];exact jas (ja4 ok)
  have gA:∀ n,n<hi.next->hA.get n=hi.get n:=fun n hn=>by
   rw[eA,jak (ja4 ok) ok.pos,ja6 ok,if_neg (by omega),if_neg (by omega)]
  have oA:hA.get hi.next=some (AB.arr [si ↑o.kind,si ↑o.value,SV.bool o.late,si ↑o.limit,si ↑o.n] 73):=by
   rw[eA,jak (ja4 ok) ok.pos,if_pos rfl]
  have nA:hA.next=hi.next+1:=by rw[eA,Hp.next_put,Hp.next_push]
  have lt':=fun n hn=>(hlt n hn).2
  have mvA:Mv h hA ns (p::(n1++(n2++n3))):=⟨okA,by have:=mv.nx;omega,mv.new,fun n h1 h2=>(gA n (by have:=mv.nx;omega)).trans (mv.keep n h1 h2)⟩
  have mrA:=mr0.keep (h':=hA) (fun n hn=>gA n (lt' n hn)) (by omega)
  have soA:=so.keep (h':=hA) (fun n hn=>gA n (lo n hn).1)
  have hdn':(done++[o])++rest=ops:=by rw[←hdn];simp
  have hlen2:(done++[o]).length=done.length+1:=by simp
  have hsucc:((done.length:Int)+1)=(((done++[o]).length:Nat):Int):=by rw[hlen2];omega
  by_cases hk2:(o.kind:Int)=2
  .have hkA:hA.get p=_:=(gA p hp.2).trans hg
   obtain⟨h2,e2,ok2,nx2,hp2,hj0,ej,mr2,mv2,kp2⟩:=j9e okA hkA (hv.keep (fun n hn=>gA n (lt' n (by simp[hn])))) (hb.imp (fun n hn=>gA n (lt' n (by simp[hn]))) (fun row a ms hm k=>k.keep (fun n hn=>gA n (lt' n (by simp[hm n hn]))))) (hk.keep (fun n hn=>gA n (lt' n (by simp[hn])))) hd (fun n hn=>⟨(hlt n hn).1,by have:=lt' n hn;omega⟩) o.value (by simp only[f00] at hn;omega)
   have e2':juf (((hi.push (AB.arr [SV.int IntKind.i64 0,SV.int IntKind.i64 0,SV.bool false,SV.int IntKind.i64 0,SV.int IntKind.i64 0] 73)).put hi.next (some (AB.arr [si ↑o.kind,si ↑o.value,SV.bool o.late,si ↑o.limit,si ↑o.n] 73))).push (AB.arr [SV.int IntKind.i64 ↑o.value] 3)) 3 1 8 (AV.s k) (AV.s (SV.slice (hi.next+1) 0 1 1 true 1))=some (.s (.slice (hi.next+2) 0 (w.known.length+1) (w.known.length+1) false 1),h2):=by
    rw[←eA];rw[nA] at e2;exact e2
   simp(disch:=first|omega|rfl|simp only[List.length]) only[go_sem,jj5,jdz,jd0,jj6,jj7,and_false,false_and,if_false,hlt1,oe1,oe2,jbi,eq_true hk2,hg,e2',hp2,jad,hsucc]
   rw[nA] at mr2 mv2 ej
   rw[←ej]
   have mn2:=mv2.nx
   refine jvq rest (done++[o]) hdn' mv2.ok mr2 (mvA.trans mv2) (soA.keep (fun n hn=>kp2 n (by have:=(lo n hn).1;omega) (lo n hn).2.1 (lo n hn).2.2)) (fun n hn=>⟨by have:=(lo n hn).1;omega,(lo n hn).2.1,fun h1=>?_⟩) (by simp at hn ⊢;omega) hl (fun hj ns'' y2 y3 y5 okj mrj mvj=>hQ hj ns'' y2 y3 y5 okj ?_ mvj)
   .rcases f0j.1 h1 with h1 | h1
    .have:=(lo n hn).1;omega
    .exact (lo n hn).2.2 (f0o (by simpa using h1))
   .have hk3:o.kind=2:=by omega
    rw[List.filter_cons_of_pos (by simpa using hk3),f1k]
    simpa[f0l] using mrj
  .simp (disch:=first|omega|rfl|simp only[List.length]) only[go_sem,jj5,jdz,jd0,jj6,jj7,and_false,false_and,if_false,hlt1,oe1,oe2,jbi,hk2,jad,hsucc]
   rw[←eA]
   refine jvq rest (done++[o]) hdn' okA mrA mvA soA (fun n hn=>⟨by have:=(lo n hn).1;omega,(lo n hn).2⟩) (by simp at hn;omega) hl (fun hj ns'' y2 y3 y5 okj mrj mvj=>hQ hj ns'' y2 y3 y5 okj ?_ mvj)
   have hk3:¬ o.kind=2:=by omega
   rw[List.filter_cons_of_neg (by simpa using hk3)]
   exact mrj
end
theorem j9f {p:Pc} {flags uses:Nat}:∀ (d i:Nat) (x:Iw×Nat×Ms),∃ cs:List Nat,cs.length=d/\(∀ c∈cs,c<2)/\(jek p flags uses d i x).2.2={ x.2.2 with values:=x.2.2.values++cs }
 | 0,i,x=>⟨[],rfl,fun c hc=>by simp at hc,by simp[jek]⟩
 | d+1,i,x=>by
  have e:(jfz p flags uses i x).2.2={ x.2.2 with values:=x.2.2.values++[jg4 p i] }:=by unfold jfz;simp only;split<;>rfl
  obtain⟨cs,h1,h2,h3⟩:=j9f (p:=p) (flags:=flags) (uses:=uses) d (i+1) (jfz p flags uses i x)
  refine⟨jg4 p i::cs,by simp[h1],fun c hc=>?_,?_⟩
  .rcases f0j.1 hc with rfl | hc
   .exact jvp
   .exact h2 c hc
  .show (jek p flags uses d (i+1) (jfz p flags uses i x)).2.2=_
   rw[h3,e];simp
theorem jle (w:Ms) (p:Pc):∃ cs:List Nat,cs.length<=2/\(∀ c∈cs,c<2)/\(ja0 w p).2={ w with values:=w.values++cs }:=by
 unfold ja0
 simp only
 obtain⟨cs,h1,h2,h3⟩:=j9f (p:=p) (flags:=pk p.flags (2 ^ 30)) (uses:=(jfu w p (pk p.flags (2 ^ 30)) (if w.known=[] then 0 else pk p.flags (2 ^ 30) % 4) 0 ⟨[],pk p.limits (2 ^ 40),(0,0),(0,0)⟩).ops.length) (1+pk p.flags (2 ^ 30) / 2 ^ 8 % 2) 0 (jfu w p (pk p.flags (2 ^ 30)) (if w.known=[] then 0 else pk p.flags (2 ^ 30) % 4) 0 ⟨[],pk p.limits (2 ^ 40),(0,0),(0,0)⟩,(jfu w p (pk p.flags (2 ^ 30)) (if w.known=[] then 0 else pk p.flags (2 ^ 30) % 4) 0 ⟨[],pk p.limits (2 ^ 40),(0,0),(0,0)⟩).ops.length,w)
 exact⟨cs,by omega,h2,h3⟩
theorem jya {p:Pc} {flags uses:Nat}:∀ (d i:Nat) (x:Iw×Nat×Ms),x.2.1<=uses->(jek p flags uses d i x).1.ops.length=x.1.ops.length+d/\((∀ o∈x.1.ops,o.value<x.2.2.values.length)->∀ o∈(jek p flags uses d i x).1.ops,o.value<(jek p flags uses d i x).2.2.values.length)
 | 0,i,x,_=>⟨rfl,id⟩
 | d+1,i,x,h=>by
  obtain⟨f1,f2,f3,f4⟩:=js4 (p:=p) (flags:=flags) (i:=i) h
  obtain⟨g1,g2⟩:=jya (p:=p) (flags:=flags) (uses:=uses) d (i+1) (jfz p flags uses i x) f1
  exact⟨by show(jek p flags uses d (i+1) (jfz p flags uses i x)).1.ops.length=_;omega,fun hx=>g2 (f4 hx)⟩
theorem js7 {w:Ms} {N:Nat} (wk:Wok w N) (p:Pc):(ja0 w p).1.ops.length<=5/\∀ o∈(ja0 w p).1.ops,o.value<(ja0 w p).2.values.length:=by
 unfold ja0
 simp only
 have hd:(if w.known=[] then 0 else pk p.flags (2 ^ 30) % 4)<=3:=by split<;>omega
 have h1:=jjz (p:=p) (flags:=pk p.flags (2 ^ 30)) wk.known (if w.known=[] then 0 else pk p.flags (2 ^ 30) % 4) 0 ⟨[],pk p.limits (2 ^ 40),(0,0),(0,0)⟩ (by
  by_cases h0:w.known=[]
  .right;rw[if_pos h0]
  .exact .inl h0) (fun o ho=>by simp at ho)
 generalize jfu w p (pk p.flags (2 ^ 30)) (if w.known=[] then 0 else pk p.flags (2 ^ 30) % 4) 0 ⟨[],pk p.limits (2 ^ 40),(0,0),(0,0)⟩=s at *
 obtain⟨g1,g2⟩:=jya (p:=p) (flags:=pk p.flags (2 ^ 30)) (uses:=s.ops.length) (1+pk p.flags (2 ^ 30) / 2 ^ 8 % 2) 0 (s,s.ops.length,w) (f0d _)
 refine⟨?_,g2 h1.2⟩
 rw[g1]
 have:=h1.1
 simp only[f1b] at this ⊢
 omega
theorem Wok.instr {w:Ms} {N:Nat} (wk:Wok w N) (p:Pc):Wok (ja0 w p).2 (N+2):=by
 obtain⟨cs,h1,h2,h3⟩:=jle w p
 rw[h3]
 exact⟨wk.m1,wk.m2,fun x hx=>by
  rcases f0e.1 hx with h | h
  .exact wk.vals x h
  .exact h2 x h,fun v hv=>by have:=wk.known v hv;simp;omega,wk.cur,by have:=wk.nv;simp;omega,f01 wk.nb (by omega),f01 wk.nk (by omega),fun b hb=>by have:=wk.ni b hb;omega,f01 wk.na (by omega)⟩
theorem Wok.lay {w:Ms} {N:Nat} (wk:Wok w N) (p:Pc):Wok (jcu w p) (N+10):=by
 have k:=wk.instr p
 have ho:=js7 wk p
 unfold jcu
 have hdl:(jdf (ja0 w p).1).length<=5:=by
  unfold jdf
  rw[f1d]
  exact f01 (List.length_filter_le _ _) ho.1
 have hdv:∀ v∈jdf (ja0 w p).1,v<(ja0 w p).2.values.length:=fun v hv=>by
  unfold jdf at hv
  obtain⟨o,h1,rfl⟩:=f19.1 hv
  exact ho.2 o (List.mem_filter.1 h1).1
 generalize ja0 w p=y at *
 refine⟨k.m1,k.m2,k.vals,fun v hv=>?_,?_,by have:=k.nv;simp only;omega,?_,?_,fun b hb=>?_,?_⟩
 .rcases f0e.1 hv with h | h
  .exact k.known v h
  .exact hdv v h
 .show y.2.cur<(jau y.2.blocks y.2.cur y.1).length
  unfold jau;rw[f1g];exact k.cur
 .show (jau y.2.blocks y.2.cur y.1).length<=_
  unfold jau;rw[f1g];have:=k.nb;omega
 .have:=k.nk;simp only[f0k];omega
 .have hc:=f0b k.cur
  have hb':b∈jau y.2.blocks y.2.cur y.1:=hb
  unfold jau at hb'
  rw[jd8 hc] at hb'
  rcases List.mem_or_eq_of_mem_set hb' with h | rfl
  .have:=k.ni b h;omega
  .have:=k.ni _ (f2z k.cur)
   simp only[f0k,f2n];omega
 .have:=k.na;simp only;omega
theorem jhr {A ns B ns':List Nat} (hd:(A++(ns++B)).Nodup) (h':ns'.Nodup) (hn:∀ n∈ns',n∈ns∨n∉A++(ns++B)):(A++(ns'++B)).Nodup:=by
 rw[f0r,f0r] at hd
 obtain⟨d1,⟨d2,d3,d4⟩,d5⟩:=hd
 rw[f0r,f0r]
 refine⟨d1,⟨h',d3,fun a ha b hb e=>?_⟩,fun a ha b hb e=>?_⟩
 .subst e
  rcases hn a ha with h1 | h1
  .exact d4 a h1 a hb rfl
  .exact h1 (by simp[hb])
 .subst e
  rcases f0e.1 hb with hb | hb
  .rcases hn a hb with h1 | h1
   .exact d5 a ha a (by simp[h1]) rfl
   .exact h1 (by simp[ha])
  .exact d5 a ha a (by simp[hb]) rfl
section
variable {F:Fns} (B:Base F)
include B
theorem qfk {h:Hp} {p:Nat} {w:Ms} {ns:List Nat} (ok:Ok h) (r:MR tt h p w ns) {N:Nat} (wk:Wok w N) (hN:N<=80000) (pc:Pc) (pin:Pin pc) :
 WC F 19 [.s (.ptr p 0),.agg (jce pc)] h (fun v h'=>v=.tup []/\∃ ns',MR tt h' p (jcu w pc) ns'/\Mv h h' ns ns'):=by
 refine ja9 (B.no 19 (by simp) _ _) ((B.T _).trans qt8) rfl ?_
 unfold qfj
 simp(disch:=first|omega|rfl|simp only[List.length]) only[go_sem,jce]
 have g1:∀ n,n<h.next->(h.push (AB.arr (jce pc) 69)).get n=h.get n:=fun n hn=>by rw[ja6 ok,if_neg (by omega)]
 have r1:=r.keep (h':=h.push (AB.arr (jce pc) 69)) (fun n hn=>g1 n (r.lt n hn).2) (by rw[Hp.next_push];omega)
 refine WC.imp (j9d B (ja4 ok) r1 wk (by omega) pc pin) ?_
 rintro _ h2 ⟨a,b,n1,n2,ns2,rfl,sa,sb,mr2,mv2,nd12,lo12⟩
 obtain⟨cs,_,_,hw2⟩:=jle w pc
 have wk2:=wk.instr pc
 have hops:=(js7 wk pc).1
 have hcur2:(ja0 w pc).2.cur=w.cur:=by rw[hw2]
 have hblk2:(ja0 w pc).2.blocks=w.blocks:=by rw[hw2]
 have hlay:jcu w pc={ (ja0 w pc).2 with blocks:=jau (ja0 w pc).2.blocks (ja0 w pc).2.cur (ja0 w pc).1,all:=(ja0 w pc).2.all+1,known:=(ja0 w pc).2.known++jdf (ja0 w pc).1 }:=rfl
 rw[hlay]
 clear hlay hw2 hcur2 hblk2
 generalize ja0 w pc=y at *
 obtain⟨x,w2⟩:=y
 simp only at *
 have mv1:Mv h h2 ns ns2:=by
  have hx:=mv2.nx
  rw[Hp.next_push] at hx
  exact⟨mv2.ok,by omega,fun n hn=>by
   rcases mv2.new n hn with h1 | h1
   .exact .inl h1
   .rw [Hp.next_push] at h1;exact .inr (by omega),fun n h1 h3=>(mv2.keep n (by rw[Hp.next_push];omega) h3).trans (g1 n h1)⟩
 have hgN:h2.get h.next=some (AB.arr (jce pc) 69):=by
  rw[mv2.keep h.next (by rw[Hp.next_push];omega) (fun h1=>by have:=(r.lt _ h1).2;omega),ja6 ok,if_pos rfl]
 have ok2:=mv2.ok
 have mn2:=mv2.nx
 rw[Hp.next_push] at mn2
 have mr0:=mr2
 obtain⟨⟨av,bv,kv,m1,m2,m3,hg,hv,hb,hk,rfl⟩,hd,hlt⟩:=mr2
 have hp:=hlt p (by simp)
 obtain⟨blk,hblk⟩:∃ b,w2.blocks[w2.cur]?=some b:=⟨_,f0b wk2.cur⟩
 have hni:=wk2.ni blk (f0c hblk)
 obtain⟨bb,row,ms,M1,M2,cells,ix,hbg,hrd,hrl,⟨pp,ia,ee,na,nb,nc,rfl,sp,sI,sE,rfl⟩,rfl,hset⟩:=hb.upd hblk
 have rd1:=jg3 (j:=1) (c:=ia) hrd rfl
 have hbb:=hlt bb (by simp)
 obtain⟨cells',hst,hset'⟩:=hset (j:=1) (v:=SV.slice (h2.next+2) 0 (blk.instrs.length+1) (blk.instrs.length+1) false 3) (by omega)
 obtain⟨h3,e3⟩:∃ h3,h3=(h2.push (AB.arr [SV.int IntKind.i64 0,SV.nilSlice,SV.nilSlice] 59)).put h2.next (some (AB.arr [si ↑x.op,a,b] 59)):=⟨_,rfl⟩
 have ok3:Ok h3:=by rw[e3];exact jas (ja4 ok2)
 have g3:∀ n,n<h2.next->h3.get n=h2.get n:=fun n hn=>by
  rw[e3,jak (ja4 ok2) ok2.pos,ja6 ok2,if_neg (by omega),if_neg (by omega)]
 have o3:h3.get h2.next=some (AB.arr [si ↑x.op,a,b] 59):=by
  rw[e3,jak (ja4 ok2) ok2.pos,if_pos rfl]
 have n3:h3.next=h2.next+1:=by rw[e3,Hp.next_put,Hp.next_push]
 have lt':=fun n hn=>(hlt n hn).2
 have sub_nb:∀ n∈nb,n∈p::(m1++(bb::(M1++(na++(nb++nc)++M2))++m3)):=fun n hn=>by simp[hn]
 have hdt:=(f0w.1 hd).2
 have e0:m1++(bb::(M1++(na++(nb++nc)++M2))++m3)=(m1++(bb::(M1++na)))++(nb++(nc++(M2++m3))):=by simp[f0l]
 have hpb:p≠bb:=fun e=>(f0w.1 hd).1 (by simp[e])
 have hpn:p∉nb:=fun e=>(f0w.1 hd).1 (by simp[e])
 rw[e0] at hdt
 have hd3:=f0r.1 hdt
 have hdnb:=(f0r.1 hd3.2.1).1
 have hbn:bb∉nb:=fun e=>hd3.2.2 bb (by simp) bb (by simp[e]) rfl
 have sI3:Sl h3 tt.ins 3 false (EX tt h3) ia blk.instrs nb:=sI.imp (fun n hn=>g3 n (lt' n (sub_nb n hn))) (fun row a m hm k=>k.keep (fun n hn=>g3 n (lt' n (sub_nb n (hm n hn)))))
 have l12:∀ n∈n1++n2,n<h2.next:=fun n hn=>(lo12 n hn).2.1
 obtain⟨h4,e4,ok4,n4,kp4,kt4,sl4⟩:=sI3.app1 (bytes:=56) (row:=[si ↑x.op,a,b]) (a:=x) (ms:=n1++n2) ok3 (fun n hn=>by have:=hlt n (sub_nb n hn);omega) rfl ⟨a,b,n1,n2,rfl,sa.keep (fun n hn=>g3 n (l12 n (by simp[hn]))),sb.keep (fun n hn=>g3 n (l12 n (by simp[hn]))),rfl⟩ (by omega) (by omega)
 have e4':juf (((h2.push (AB.arr [SV.int IntKind.i64 0,SV.nilSlice,SV.nilSlice] 59)).put h2.next (some (AB.arr [si ↑x.op,a,b] 59))).push (AB.arr [si ↑x.op,a,b] 59)) 59 3 56 (AV.s ia) (AV.s (SV.slice (h2.next+1) 0 1 1 true 3))=some (AV.s (SV.slice (h2.next+2) 0 (blk.instrs.length+1) (blk.instrs.length+1) false 3),h4):=by
  rw[←e3];rw[n3] at e4;exact e4
 have k4:∀ n,n<h2.next->n∉nb->h4.get n=h2.get n:=fun n h1 h3'=>(kp4 n (by omega) h3').trans (g3 n h1)
 have p4:h4.get p=_:=(k4 p hp.2 hpn).trans hg
 have b4:h4.get bb=_:=(k4 bb hbb.2 hbn).trans hbg
 have x4:h4.get h2.next=_:=(kp4 _ (by omega) (fun h1=>by have:=lt' _ (sub_nb _ h1);omega)).trans o3
 have la:=sa.len
 have hwa:=wk2.na
 have hall:(w2.all:Int)+1=((w2.all+1:Nat):Int):=by omega
 simp(disch:=first|omega|rfl|simp only[List.length]) only[go_sem,jj5,jdz,jd0,jj6,jj7,and_false,false_and,if_false,hg,ix,rd1,e4',b4,hst,p4,x4,jad,la,hall]
 obtain⟨h5,e5⟩:∃ h5,h5=h4.put bb (some (AB.arr cells' tt.blk)):=⟨_,rfl⟩
 rw[←e5]
 have ok5:Ok h5:=by rw[e5];exact jas ok4
 have g5:∀ n,n≠bb->h5.get n=h4.get n:=fun n hn=>by rw[e5,jak ok4 hbb.1,if_neg hn]
 have b5:h5.get bb=some (AB.arr cells' tt.blk):=by rw[e5,jak ok4 hbb.1,if_pos rfl]
 have n5:h5.next=h2.next+3:=by rw[e5,Hp.next_put,n4,n3]
 clear e5 e3
 have k5:∀ n,n<h2.next->n∉nb->n≠bb->h5.get n=h2.get n:=fun n h1 h3' h4'=>(g5 n h4').trans (k4 n h1 h3')
 have ndl:(m1++(bb::(M1++(na++(nb++nc)++M2))++m3)).Nodup:=(f0w.1 hd).2
 have q12:∀ n∈n1++n2,n∉nb/\n≠bb:=fun n hn=>⟨fun h1=>(lo12 n hn).2.2 (sub_nb n h1),fun h1=>(lo12 n hn).2.2 (by simp[h1])⟩
 have qA:∀ n∈m1++(bb::(M1++na)),n∉nb:=fun n hn h1=>hd3.2.2 n hn n (by simp[h1]) rfl
 have hd4:=f0r.1 hd3.2.1
 have qB:∀ n∈nc++(M2++m3),n∉nb:=fun n hn h1=>hd4.2.2 n h1 n hn rfl
 have hd5:=f0r.1 hd3.1
 have hd6:=f0w.1 hd5.2.1
 have b1:∀ n∈m1,n≠bb:=fun n hn e=>hd5.2.2 n hn bb (by simp) e
 have b2:∀ n∈M1++na,n≠bb:=fun n hn e=>hd6.1 (e▸hn)
 have b3:∀ n∈nb++(nc++(M2++m3)),n≠bb:=fun n hn e=>hd3.2.2 bb (by simp) n hn e.symm
 have K:∀ n,n∈m1∨n∈M1∨n∈na∨n∈nc∨n∈M2∨n∈m3->h5.get n=h2.get n:=fun n hn=>by
  refine k5 n (lt' n ?_) ?_ ?_
  .rcases hn with h | h | h | h | h | h<;>simp[h]
  .rcases hn with h | h | h | h | h | h
   .exact qA n (by simp[h])
   .exact qA n (by simp[h])
   .exact qA n (by simp[h])
   .exact qB n (by simp[h])
   .exact qB n (by simp[h])
   .exact qB n (by simp[h])
  .rcases hn with h | h | h | h | h | h
   .exact b1 n h
   .exact b2 n (by simp[h])
   .exact b2 n (by simp[h])
   .exact b3 n (by simp[h])
   .exact b3 n (by simp[h])
   .exact b3 n (by simp[h])
 have T:∀ n∈nb.tail,h5.get n=h3.get n:=fun n hn=>(g5 n (b3 n (by simp[f0o hn]))).trans (kt4 n hn hdnb)
 have X12:∀ n∈n1++n2,h5.get n=h3.get n:=fun n hn=>(k5 n (l12 n hn) (q12 n hn).1 (q12 n hn).2).trans (g3 n (l12 n hn)).symm
 have sI5:Sl h5 tt.ins 3 false (EX tt h5) (SV.slice (h2.next+2) 0 (blk.instrs.length+1) (blk.instrs.length+1) false 3) (blk.instrs++[x]) ((h2.next+2)::(nb.tail++(n1++n2))):=by
  have:=sl4 (E':=EX tt h5) (fun row a m hm k=>k.keep (fun n hn=>by
   rcases hm n hn with h1 | h1
   .exact T n h1
   .exact X12 n h1))
  rw[n3] at this
  refine this.keep (fun n hn=>g5 n ?_)
  rcases f0j.1 hn with rfl | hn
  .omega
  .rcases f0e.1 hn with hn | hn
   .exact b3 n (by simp[f0o hn])
   .exact (q12 n hn).2
 have sB:=hset' (h':=h5) (E':=EB tt h5) (a':={ blk with instrs:=blk.instrs++[x] }) (ms':=na++(((h2.next+2)::(nb.tail++(n1++n2)))++nc)) b5 ⟨pp,_,ee,na,_,nc,rfl,sp.keep (fun n hn=>K n (by simp[hn])),sI5,sE.imp (fun n hn=>K n (by simp[hn])) (fun row a m hm k=>k.keep (fun n hn=>K n (by simp[hm n hn]))),rfl⟩ (fun row a m hm k=>k.keep (fun n hn=>by
  rcases f0e.1 (hm n hn) with h | h
  .exact K n (by simp[h])
  .exact K n (by simp[h])))
 have hmod:jau w2.blocks w2.cur x=w2.blocks.set w2.cur { blk with instrs:=blk.instrs++[x] }:=by
  unfold jau;exact jd8 hblk
 rw[←hmod] at sB
 have hnk:(h2.next+2)∉nb/\(h2.next+2)∉n1++n2:=⟨fun h1=>by have:=lt' _ (sub_nb _ h1);omega,fun h1=>by have:=l12 _ h1;omega⟩
 have nd5:((h2.next+2)::(nb.tail++(n1++n2))).Nodup:=jdk hdnb nd12 (fun n hn=>(q12 n hn).1) hnk.1 hnk.2
 have e6:m1++(bb::(M1++(na++(((h2.next+2)::(nb.tail++(n1++n2)))++nc)++M2))++m3)=(m1++(bb::(M1++na)))++(((h2.next+2)::(nb.tail++(n1++n2)))++(nc++(M2++m3))):=by simp[f0l]
 have old:∀ n,n∈(m1++(bb::(M1++na)))++(nb++(nc++(M2++m3)))->n∈p::(m1++(bb::(M1++(na++(nb++nc)++M2))++m3)):=fun n hn=>by
  rw[←e0] at hn;exact f04 _ hn
 have hn6:∀ n∈(m1++(bb::(M1++na)))++(((h2.next+2)::(nb.tail++(n1++n2)))++(nc++(M2++m3))),n∈p::(m1++(bb::(M1++(na++(nb++nc)++M2))++m3))∨n=h2.next+2∨n∈n1++n2:=fun n hn=>by
  rcases f0e.1 hn with hn | hn
  .exact .inl (old n (f1e _ hn))
  .rcases f0e.1 hn with hn | hn
   .rcases f0j.1 hn with rfl | hn
    .exact .inr (.inl rfl)
    .rcases f0e.1 hn with hn | hn
     .exact .inl (sub_nb n (f0o hn))
     .exact .inr (.inr hn)
   .exact .inl (old n (f03 _ (f03 _ hn)))
 have nd6:(p::(m1++(bb::(M1++(na++(((h2.next+2)::(nb.tail++(n1++n2)))++nc)++M2))++m3))).Nodup:=by
  rw[f0w]
  refine⟨fun h1=>?_,?_⟩
  .rw [e6] at h1
   rcases f0e.1 h1 with h1 | h1
   .exact (f0w.1 hd).1 (by rw[e0];exact f1e _ h1)
   .rcases f0e.1 h1 with h1 | h1
    .rcases f0j.1 h1 with h1 | h1
     .omega
     .rcases f0e.1 h1 with h1 | h1
      .exact hpn (f0o h1)
      .exact (lo12 p h1).2.2 (by simp)
    .exact (f0w.1 hd).1 (by rw[e0];exact f03 _ (f03 _ h1))
  .rw [e6]
   refine jhr hdt nd5 (fun n hn=>?_)
   rcases f0j.1 hn with rfl | hn
   .exact .inr (fun h1=>by have:=lt' _ (old _ h1);omega)
   .rcases f0e.1 hn with hn | hn
    .exact .inl (f0o hn)
    .exact .inr (fun h1=>(lo12 n hn).2.2 (old n h1))
 have lt6:∀ n∈p::(m1++(bb::(M1++(na++(((h2.next+2)::(nb.tail++(n1++n2)))++nc)++M2))++m3)),1<=n/\n<h5.next:=fun n hn=>by
  rcases f0j.1 hn with rfl | hn
  .omega
  .rw [e6] at hn
   rcases hn6 n hn with h1 | h1 | h1
   .have:=hlt n h1;omega
   .omega
   .have h3':=(lo12 n h1).1
    rw[Hp.next_push] at h3'
    have:=(lo12 n h1).2.1
    omega
 have mr6:=MRk.mk_put (w':={ w2 with blocks:=jau w2.blocks w2.cur x,all:=w2.all+1 }) ok5 (hv.keep (h':=h5) (fun n hn=>K n (by simp[hn]))) sB (hk.keep (fun n hn=>K n (by simp[hn]))) nd6 lt6
 have mv6:Mv h (h5.put p (some (.arr [si w2.m.1,si w2.m.2,av,bv,si w2.cur,kv,si (w2.all+1:Nat)] tt.mas))) ns (p::(m1++(bb::(M1++(na++(((h2.next+2)::(nb.tail++(n1++n2)))++nc)++M2))++m3))):=by
  refine⟨jas ok5,by rw[Hp.next_put];omega,fun n hn=>?_,fun n h1 h3'=>?_⟩
  .have hn':n∈p::(m1++(bb::(M1++(na++(nb++nc)++M2))++m3))∨n=h2.next+2∨n∈n1++n2:=by
    rcases f0j.1 hn with rfl | hn
    .exact .inl (by simp)
    .rw [e6] at hn;exact hn6 n hn
   rcases hn' with h1 | h1 | h1
   .exact mv1.new n h1
   .exact .inr (by omega)
   .have:=(lo12 n h1).1
    rw[Hp.next_push] at this
    exact .inr (by omega)
  .have hno:n∉p::(m1++(bb::(M1++(na++(nb++nc)++M2))++m3)):=fun h4'=>by
    rcases mv1.new n h4' with h5' | h5'
    .exact h3' h5'
    .omega
   have hp':n≠p:=fun e=>hno (by simp[e])
   rw[jak ok5 hp.1,if_neg hp']
   exact(k5 n (by omega) (fun h4'=>hno (sub_nb n h4')) (fun e=>hno (by simp[e]))).trans (mv1.keep n h1 h3')
 have g6:∀ n,n≠p->(h5.put p (some (.arr [si w2.m.1,si w2.m.2,av,bv,si w2.cur,kv,si (w2.all+1:Nat)] tt.mas))).get n=h5.get n:=fun n hn=>by rw[jak ok5 hp.1,if_neg hn]
 have n6:(h5.put p (some (.arr [si w2.m.1,si w2.m.2,av,bv,si w2.cur,kv,si (w2.all+1:Nat)] tt.mas))).next=h5.next:=Hp.next_put _ _ _
 have l1:∀ n∈n1,n≠p:=fun n hn e=>(lo12 n (by simp[hn])).2.2 (by simp[e])
 have ok5':=ok5
 have l13:∀ n∈n1,n∉m3:=fun n hn h1=>(lo12 n (by simp[hn])).2.2 (by simp[h1])
 refine jvq B (ops:=x.ops) x.ops [] rfl (w:={ w2 with blocks:=jau w2.blocks w2.cur x,all:=w2.all+1 }) (jas ok5) mr6 mv6 (nso:=n1) ((sa.keep (fun n hn=>g3 n (l12 n (by simp[hn])))).keep (fun n hn=>(g6 n (l1 n hn)).trans (X12 n (by simp[hn])))) (fun n hn=>⟨by rw[n6,n5];have:=l12 n (by simp[hn]);omega,l1 n hn,l13 n hn⟩) (by have:=wk2.nk;show w2.known.length+x.ops.length<=100000;omega) (by omega) (fun hj ns'' x2 x3 x5 okj mrj mvj=>?_)
 simp(disch:=first|omega|rfl|simp only[List.length]) only[go_sem]
 exact⟨ns'',mrj,mvj⟩
end
end Go.Proofs.YtdbklpgagdbpiaaDoor.Ev
