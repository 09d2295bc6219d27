/- The builders of functions: what is picked; values, limits. -/
import Derived.Test.YtdbklpgagdbpiaaDoorCdM
import Derived.Test.YtdbklpgagdbpiaaDoorEnc
namespace Go.Proofs.YtdbklpgagdbpiaaDoor.Ev
noncomputable section
open Go Go.RowKit Go.Proofs.YtdbklpgagdbpiaaDoor.Ms
attribute [local go_sem] Int.reduceToNat reduceCtorEq Nat.reduceAdd Nat.reduceMul Nat.reduceEqDiff Int.reduceEq Int.reduceLT Int.reduceLE Int.reduceNeg Int.reduceAdd Int.reduceSub Int.reduceMul Int.reduceNe
attribute [local go_sem ↓] reduceIte
set_option linter.all false
set_option maxRecDepth 100000
variable {Q:AV->Hp->Prop} {late:Bool} {f:FuncId} {h hi:Hp} {vs:List AV} {ns' nso nss:List Nat} {w:Ms} {p oN cls:Nat} {pc:Pc} {xo xs:SV}
def F0:Fns:=.mk T (fun _ _ _=>none)
theorem qw0 {A:Nat->Int}:Env Tryd.prog A tys F0 where
 tys:=qpm
 mix:=(env (A:=A) (ps:=[]) (fun i m r h=>by simp at h)).mix
 fn:=(env (A:=A) (ps:=[]) (fun i m r h=>by simp at h)).fn
 ext:=fun f vs h v h' hx=>by cases hx
theorem qt9:jdx F0 f vs h=none:=rfl
theorem jbs {n:Int} {m:Nat} (hm:0<m):pick n (m:Int)=(pk n m:Int):=by
 have:=jz1 n (m:Int) (by omega)
 unfold pk
 omega
theorem jgo {n:Int} {m:Nat} (hm:0<m):pk n m<m:=by
 have h1:=jz2 n (m:Int) (by omega)
 have h2:=@jbs n m hm
 omega
theorem jf1 {n:Int}:pick n 2=((pk n 2:Nat):Int):=jbs (m:=2) (by omega)
theorem jf2 {n:Int}:pick n 3=((pk n 3:Nat):Int):=jbs (m:=3) (by omega)
theorem jf3 {n:Int}:pick n 4=((pk n 4:Nat):Int):=jbs (m:=4) (by omega)
theorem jf4 {n:Int}:pick n 6=((pk n 6:Nat):Int):=jbs (m:=6) (by omega)
theorem jf5 {n:Int}:pick n 9=((pk n 9:Nat):Int):=jbs (m:=9) (by omega)
theorem jb5 {n:Int}:pick n 256=((pk n 256:Nat):Int):=jbs (m:=256) (by omega)
theorem jam {n:Int}:pick n 1073741824=((pk n 1073741824:Nat):Int):=jbs (m:=1073741824) (by omega)
theorem jai {n:Int}:pick n 1099511627776=((pk n 1099511627776:Nat):Int):=jbs (m:=1099511627776) (by omega)
theorem j5w {n m:Int} (h1:-9223372036854775808<=n) (h2:n<=9223372036854775807) (hm:0<m) (hm2:m<=9223372036854775807) (hq:Q (vi (pick n m)) h):WC F0 8 [vi n,vi m] h Q:=by
 refine ja9 qt9 qdo rfl ?_
 unfold jx2
 have h3:=jz1 n m hm
 have h4:=jz2 n m hm
 by_cases h0:n<0
 .simp (disch:=omega) only[jhn,jvf,jm1,j7l,qh8,j7m,qc1,jzz,j0k,jum,jt0,j7n,j7o,j0l,juh,j0m,juk,juj,jun,jul,jqk,jui,j7q,j0n,juo,jup,j0o,jur,juq,jut,jus,jql,jik,jqm,jil,jqn,jgn,jqo,j0p,jkz,jgd,jmg,jpv,jjm,jpw,jtz,jii,jmh,jpx,j8f,j8h,jqp,jmx,j0q,juu,j8j,j0s,juw,juy,j0u,j0w,jqr,j0y,j8g,j8i,jqq,jmy,j0r,juv,j8k,j0t,jux,juz,j0v,j0x,jqs,j0z,qtj,qtk,qtl,jz5,jt3,jp4,jp5,jp6,jp7,jp8,jp9,jjq,jjr,qil,qtm,jbn,qim,jqa,jt4,jmk,jt5,jml,qin,jz6,j71,j72,j73,jt6,jmm,jmn,jmo,jmp,jqb,jt7,jqc,jqd,jmq,jij,jdu,jqe,jz7,jz8,qjb,j07,j08,j74,j02,jmz,jqf,jt8,jqg,j8l,jqt,jz9,j0a,j8m,ju0,j00,jt9,j8q,ju3,ju2,j01,jqu,ju1,jua,jkx,jub,jqh,jmr,jjs,jqi,juc,jud,j8n,jqv,jue,jky,jms,jqj,j0d,j0e,j0f,jjw,jfr,jjx,j76,j77,j78,j79,j8a,j8b,j8o,jqw,j8p,jqx,j8u,qi3,qi4,j8v,qi5,j04,j05,ju9,j06,jq1,jju,jva,jmv,jfq,jmw,j8w,jvb,qiw,jgm,jmu,j03,jqy,ju4,qi0,qi1,ju5,ju6,jm0,jq0,j8r,jqz,ju7,j8t,ju8,j0j,j8e,j0i,jug,jmt,jjt,j8x,qi8,qi6,qi7,Int.reduceToNat,f2b,f2f,f2m,↓reduceIte,decide_eq_true_eq,decide_eq_false_iff_not,f0v,and_true,true_and,f12,f1j,reduceCtorEq,decide_true,decide_false,f3a,f21,f1i,f0z,Option.some.injEq,f2c,Nat.reduceAdd,Nat.reduceMul,Nat.reduceEqDiff,Int.reduceEq,Int.reduceLT,Int.reduceLE,Int.reduceNeg,Int.reduceAdd,Int.reduceSub,Int.reduceMul,Int.reduceNe,not_true_eq_false,not_false_eq_true,Hp.next_push,Hp.next_put,f1r,je7,je8,jcs,jc4,jfp,jd6,jd7,je5,je6,jvc,jk0,jk1,jvd,jk2,jve,jk3,jk4,jk5,jk6,jk7,jk8,jjv,jk9,jla,jhm,jcr,jbg,-jfr,h0,jiz,jad,j0g]
  have e:(-(n+1)).tmod m=pick n m:=by
   unfold pick
   rw[if_pos h0]
   exact f2y (by omega)
  rw[if_neg (by omega),e,jiz (by omega) (by omega)]
  simp only[go_sem]
  exact hq
 .simp (disch:=omega) only[jhn,jvf,jm1,j7l,qh8,j7m,qc1,jzz,j0k,jum,jt0,j7n,j7o,j0l,juh,j0m,juk,juj,jun,jul,jqk,jui,j7q,j0n,juo,jup,j0o,jur,juq,jut,jus,jql,jik,jqm,jil,jqn,jgn,jqo,j0p,jkz,jgd,jmg,jpv,jjm,jpw,jtz,jii,jmh,jpx,j8f,j8h,jqp,jmx,j0q,juu,j8j,j0s,juw,juy,j0u,j0w,jqr,j0y,j8g,j8i,jqq,jmy,j0r,juv,j8k,j0t,jux,juz,j0v,j0x,jqs,j0z,qtj,qtk,qtl,jz5,jt3,jp4,jp5,jp6,jp7,jp8,jp9,jjq,jjr,qil,qtm,jbn,qim,jqa,jt4,jmk,jt5,jml,qin,jz6,j71,j72,j73,jt6,jmm,jmn,jmo,jmp,jqb,jt7,jqc,jqd,jmq,jij,jdu,jqe,jz7,jz8,qjb,j07,j08,j74,j02,jmz,jqf,jt8,jqg,j8l,jqt,jz9,j0a,j8m,ju0,j00,jt9,j8q,ju3,ju2,j01,jqu,ju1,jua,jkx,jub,jqh,jmr,jjs,jqi,juc,jud,j8n,jqv,jue,jky,jms,jqj,j0d,j0e,j0f,jjw,jfr,jjx,j76,j77,j78,j79,j8a,j8b,j8o,jqw,j8p,jqx,j8u,qi3,qi4,j8v,qi5,j04,j05,ju9,j06,jq1,jju,jva,jmv,jfq,jmw,j8w,jvb,qiw,jgm,jmu,j03,jqy,ju4,qi0,qi1,ju5,ju6,jm0,jq0,j8r,jqz,ju7,j8t,ju8,j0j,j8e,j0i,jug,jmt,jjt,j8x,qi8,qi6,qi7,Int.reduceToNat,f2b,f2f,f2m,↓reduceIte,decide_eq_true_eq,decide_eq_false_iff_not,f0v,and_true,true_and,f12,f1j,reduceCtorEq,decide_true,decide_false,f3a,f21,f1i,f0z,Option.some.injEq,f2c,Nat.reduceAdd,Nat.reduceMul,Nat.reduceEqDiff,Int.reduceEq,Int.reduceLT,Int.reduceLE,Int.reduceNeg,Int.reduceAdd,Int.reduceSub,Int.reduceMul,Int.reduceNe,not_true_eq_false,not_false_eq_true,Hp.next_push,Hp.next_put,f1r,je7,je8,jcs,jc4,jfp,jd6,jd7,je5,je6,jvc,jk0,jk1,jvd,jk2,jve,jk3,jk4,jk5,jk6,jk7,jk8,jjv,jk9,jla,jhm,jcr,jbg,-jfr,h0,jiz,jad,j0g]
  have e:n.tmod m=pick n m:=by
   unfold pick
   rw[if_neg h0]
   exact f2y (by omega)
  rw[if_neg (by omega),e,jiz (by omega) (by omega)]
  simp only[go_sem]
  exact hq
theorem j1g {n m:Int} (h1:-9223372036854775808<=n) (h2:n<=9223372036854775807) (hm:0<m) (hm2:m<=9223372036854775807):jp2 true F0 8 [vi n,vi m] (vi (pick n m)) :=
 j5w h1 h2 hm hm2 ⟨1,rfl⟩
def S1 (f:FuncId):Bool:=Nat.beq f 8
def F1:Fns:=PX S1 F0
theorem jx5 {n m:Int} (h1:-9223372036854775808<=n) (h2:n<=9223372036854775807) (hm:0<m) (hm2:m<=9223372036854775807):jdx F1 8 [vi n,vi m] h=some (vi (pick n m),h) :=
 jbm rfl rfl (j1g h1 h2 hm hm2)
structure Base (F:Fns):Prop where
 T:∀ f,qcx F f=T f
 pk:∀ vs h,jdx F 8 vs h=jdx F1 8 vs h
 no:∀ f,f=24∨f=35∨f=27∨f=19∨f=25∨f=26->∀ vs h,jdx F f vs h=none
theorem jaq {F:Fns} {h':Hp} {u:AV} (hx:jdx F f vs h=some (u,h')):WC F f vs h Q=Q u h':=by
 refine propext ⟨fun⟨n,v,h1,h2,h3⟩=>?_,qfd hx⟩
 cases F with
 | mk T X =>
 have h4:Option.rec (motive:=fun _=>R) _ (fun r=>some r) (X f vs h)=some (v,h1):=h2
 rw[show X f vs h=some (u,h') from hx] at h4
 cases h4
 exact h3
section
variable {F:Fns} (B:Base F)
include B
theorem jba {n m:Int} (h1:-9223372036854775808<=n) (h2:n<=9223372036854775807) (hm:0<m) (hm2:m<=9223372036854775807):WC F 8 [vi n,vi m] h Q=Q (vi (pick n m)) h :=
 jaq (by rw[B.pk];exact jx5 h1 h2 hm hm2)
def tt:Tys7:=⟨3,73,76,59,62,39,66⟩
theorem j3a {ns:List Nat} (ok:Ok h) (r:MR tt h p w ns) (c:Nat) (hc:c<2) (hn:w.values.length<=100000) :
 WC F 24 [.s (.ptr p 0),vi c] h (fun v h'=>v=vi w.values.length/\∃ ns',MR tt h' p { w with values:=w.values++[c] } ns'/\Mv h h' ns ns'):=by
 refine ja9 (B.no 24 (by simp) _ _) ((B.T _).trans qjl) rfl ?_
 unfold j26
 obtain⟨⟨a,b,k,n1,n2,n3,hg,hv,hb,hk,rfl⟩,hd,hlt⟩:=r
 have hp:=hlt p (by simp)
 simp(disch:=first|omega|rfl|simp only[List.length]) only[go_sem,hg]
 have hd1:n1.Nodup:=(f0r.1 (f0w.1 hd).2).1
 obtain⟨h2,e2,ok2,nx2,kp2,kt2,sl2⟩:=hv.app1 (bytes:=8) (row:=[si c]) (a:=c) (ms:=[]) ok (fun n hn=>hlt n (by simp[hn])) rfl ⟨rfl,rfl⟩ (by omega) (by omega)
 have e3:juf (h.push (AB.arr [SV.int IntKind.i64 c] 3)) 3 1 8 (AV.s a) (AV.s (SV.slice h.next 0 1 1 true 1))=_:=e2
 have hp1:p∉n1:=fun hn=>(f0w.1 hd).1 (by simp[hn])
 have hp2:h2.get p=_:=(kp2 p hp.2 hp1).trans hg
 simp(disch:=first|omega|rfl|simp only[List.length]) only[go_sem,e3,hp2,jak ok2 hp.1,jad]
 have k2:∀ n∈n2++n3,h2.get n=h.get n:=fun n hn=>kp2 n (hlt n (f04 _ (f03 _ hn))).2 (fun h1=>(f0r.1 (f0w.1 hd).2).2.2 n h1 n hn rfl)
 have hlt':=fun n hn=>(hlt n hn).2
 have hf:h.next+1∉n1:=fun hn=>by have:=hlt' (h.next+1) (by simp[hn]);omega
 have u:=MR.upd (w':={ w with values:=w.values++[c] }) hd hlt ok.pos ok2 (by omega) (sl2 (fun _ _ _ _ h=>h)) (hb.imp (fun n hn=>k2 n (by simp[hn])) (fun row a ms hm k=>k.keep (fun n hn=>k2 n (by simp[hm n hn])))) (hk.keep (fun n hn=>k2 n (by simp[hn])))
  (jg6 (A:=[]) (N:=h.next) (f0w.1 hd).2 (fun n hn=>hlt' n (f04 _ hn)) (jdk hd1 .nil (by simp) hf (by simp)) (fun n hn=>by
   rcases f0j.1 hn with rfl | hn
   .exact .inr (by omega)
   .exact .inl (f0o (by simpa using hn)))) (fun n hn=>by
   rcases f0e.1 hn with hn | hn
   .rcases f0j.1 hn with rfl | hn
    .exact ⟨.inr (by omega),by omega⟩
    .have:=f0o (by simpa using hn)
     exact⟨.inl (by simp[this]),by have:=hlt' n (by simp[this]);omega⟩
   .exact ⟨.inl (f03 _ hn),by have:=hlt' n (f04 _ (f03 _ hn));omega⟩) (fun n h1 h3=>kp2 n h1 (fun h4=>h3 (by simp[h4])))
 exact⟨by simp,_,u⟩
end
section
variable {F:Fns} (B:Base F)
include B
theorem j3b {bn bf:Nat} {m need fixed:Nat×Nat} {a b k x y:SV} (ok:Ok h) (hg:h.get p=some (.arr [si m.1,si m.2,a,b,x,k,y] 66)) (hbn:h.get bn=some (.arr [si need.1,si need.2] 3)) (hbf:h.get bf=some (.arr [si fixed.1,si fixed.2] 3)) (hn:bn≠bf) (h1:1<=bn) (h2:1<=bf) (wish c:Nat) (hc:c<2)
 (q1:m.1<=100) (q2:m.2<=100) (q3:need.1<=100) (q4:need.2<=100) (q5:fixed.1<=100) (q6:fixed.2<=100) :
 WC F 35 [.s (.ptr p 0),vi wish,vi c,.s (.slice bn 0 2 2 true 1),.s (.slice bf 0 2 2 true 1)] h (fun v h'=>v=.tup [(false,[si (jbc m wish c need fixed).1]),(false,[si (jbc m wish c need fixed).2.1])]/\Ok h'/\h'.next=h.next /\
  h'.get bn=some (.arr [si (jbc m wish c need fixed).2.2.1.1,si (jbc m wish c need fixed).2.2.1.2] 3)/\h'.get bf=some (.arr [si (jbc m wish c need fixed).2.2.2.1,si (jbc m wish c need fixed).2.2.2.2] 3)/\(∀ n,n≠bn->n≠bf->h'.get n=h.get n)):=by
 refine ja9 (B.no 35 (by simp) _ _) ((B.T _).trans qjm) rfl ?_
 unfold j27
 obtain⟨m1,m2⟩:=m
 obtain⟨u1,u2⟩:=need
 obtain⟨f1,f2⟩:=fixed
 simp only at *
 have hn':¬ bf=bn:=fun e=>hn e.symm
 have hc':c=0∨c=1:=by omega
 rcases hc' with rfl | rfl
 .by_cases w1:(wish:Int)=1
  .have w3:¬ (wish:Int)=3:=by omega
   have v1:wish=1:=by omega
   simp(disch:=first|omega|rfl|simp only[List.length]) only[go_sem,hg,hbn,hbf,w1,w3,jad,hn,hn']
   simp(disch:=first|omega|rfl|simp only[List.length]) [jbc,g2,s2,v1,ok,jas,jak,hn,hn',hbn,hbf,h1,h2]
   try (intro n e1 e2;simp[e1,e2])
  by_cases w3:(wish:Int)=3
  .have v3:wish=3:=by omega
   simp(disch:=first|omega|rfl|simp only[List.length]) only[go_sem,hg,hbn,hbf,w1,w3,jad,hn,hn']
   simp(disch:=first|omega|rfl|simp only[List.length]) [jbc,g2,s2,v3,ok,jas,jak,hn,hn',hbn,hbf,h1,h2]
   try (intro n e1 e2;simp[e1,e2])
  by_cases w2:(m1:Int)<=u1+1
  .have v1:¬ wish=1:=by omega
   have v3:¬ wish=3:=by omega
   have v2:m1<=u1+1:=by omega
   simp(disch:=first|omega|rfl|simp only[List.length]) only[go_sem,hg,hbn,hbf,w1,w3,w2,jad,hn,hn']
   simp(disch:=first|omega|rfl|simp only[List.length]) [jbc,g2,s2,v1,v3,v2,ok,jas,jak,hn,hn',hbn,hbf,h1,h2]
   try (intro n e1 e2;simp[e1,e2])
  have v1:¬ wish=1:=by omega
  have v3:¬ wish=3:=by omega
  have v2:¬ m1<=u1+1:=by omega
  by_cases w4:(wish:Int)=4
  .have v4:wish=4:=by omega
   simp(disch:=first|omega|rfl|simp only[List.length]) only[go_sem,hg,hbn,hbf,w1,w3,w2,w4,jad,hn,hn']
   simp(disch:=first|omega|rfl|simp only[List.length]) [jbc,g2,s2,v1,v3,v2,v4,ok,jas,jak,hn,hn',hbn,hbf,h1,h2]
   try (intro n e1 e2;simp[e1,e2])
  .have v4:¬ wish=4:=by omega
   simp(disch:=first|omega|rfl|simp only[List.length]) only[go_sem,hg,hbn,hbf,w1,w3,w2,w4,jad,hn,hn']
   simp(disch:=first|omega|rfl|simp only[List.length]) [jbc,g2,s2,v1,v3,v2,v4,ok,jas,jak,hn,hn',hbn,hbf,h1,h2]
   try (intro n e1 e2;simp[e1,e2])
 .by_cases w1:(wish:Int)=1
  .have w3:¬ (wish:Int)=3:=by omega
   have v1:wish=1:=by omega
   simp(disch:=first|omega|rfl|simp only[List.length]) only[go_sem,hg,hbn,hbf,w1,w3,jad,hn,hn']
   simp(disch:=first|omega|rfl|simp only[List.length]) [jbc,g2,s2,v1,ok,jas,jak,hn,hn',hbn,hbf,h1,h2]
   try (intro n e1 e2;simp[e1,e2])
  by_cases w3:(wish:Int)=3
  .have v3:wish=3:=by omega
   simp(disch:=first|omega|rfl|simp only[List.length]) only[go_sem,hg,hbn,hbf,w1,w3,jad,hn,hn']
   simp(disch:=first|omega|rfl|simp only[List.length]) [jbc,g2,s2,v3,ok,jas,jak,hn,hn',hbn,hbf,h1,h2]
   try (intro n e1 e2;simp[e1,e2])
  by_cases w2:(m2:Int)<=u2+1
  .have v1:¬ wish=1:=by omega
   have v3:¬ wish=3:=by omega
   have v2:m2<=u2+1:=by omega
   simp(disch:=first|omega|rfl|simp only[List.length]) only[go_sem,hg,hbn,hbf,w1,w3,w2,jad,hn,hn']
   simp(disch:=first|omega|rfl|simp only[List.length]) [jbc,g2,s2,v1,v3,v2,ok,jas,jak,hn,hn',hbn,hbf,h1,h2]
   try (intro n e1 e2;simp[e1,e2])
  have v1:¬ wish=1:=by omega
  have v3:¬ wish=3:=by omega
  have v2:¬ m2<=u2+1:=by omega
  by_cases w4:(wish:Int)=4
  .have v4:wish=4:=by omega
   simp(disch:=first|omega|rfl|simp only[List.length]) only[go_sem,hg,hbn,hbf,w1,w3,w2,w4,jad,hn,hn']
   simp(disch:=first|omega|rfl|simp only[List.length]) [jbc,g2,s2,v1,v3,v2,v4,ok,jas,jak,hn,hn',hbn,hbf,h1,h2]
   try (intro n e1 e2;simp[e1,e2])
  .have v4:¬ wish=4:=by omega
   simp(disch:=first|omega|rfl|simp only[List.length]) only[go_sem,hg,hbn,hbf,w1,w3,w2,w4,jad,hn,hn']
   simp(disch:=first|omega|rfl|simp only[List.length]) [jbc,g2,s2,v1,v3,v2,v4,ok,jas,jak,hn,hn',hbn,hbf,h1,h2]
   try (intro n e1 e2;simp[e1,e2])
end
structure Pin (p:Pc):Prop where
 kind:-9223372036854775808<=p.kind/\p.kind<=9223372036854775807
 op:-9223372036854775808<=p.op/\p.op<=9223372036854775807
 a:-9223372036854775808<=p.a/\p.a<=9223372036854775807
 b:-9223372036854775808<=p.b/\p.b<=9223372036854775807
 c:-9223372036854775808<=p.c/\p.c<=9223372036854775807
 limits:-9223372036854775808<=p.limits/\p.limits<=9223372036854775807
 flags:-9223372036854775808<=p.flags/\p.flags<=9223372036854775807
structure Wok (w:Ms) (N:Nat):Prop where
 m1:2<=w.m.1/\w.m.1<=10
 m2:2<=w.m.2/\w.m.2<=10
 vals:∀ c∈w.values,c<2
 known:∀ v∈w.known,v<w.values.length
 cur:w.cur<w.blocks.length
 nv:w.values.length<=N
 nb:w.blocks.length<=N
 nk:w.known.length<=N
 ni:∀ b∈w.blocks,b.instrs.length<=N/\b.edges.length<=N/\b.params.length<=N
 na:w.all<=N
structure Iv (h hi:Hp) (p:Nat) (w:Ms) (ns ns':List Nat) (pc:Pc) (s:Iw) (sp:List (Nat×Nat)) (xo xs:SV) (nso nss:List Nat):Prop where
 ok:Ok hi
 nx:h.next+5<=hi.next
 mr:MR tt hi p w ns'
 mv:Mv h hi ns ns'
 hp:hi.get h.next=some (.arr (jce pc) 69)
 hr:hi.get (h.next+1)=some (.arr [si 0,.nilSlice,.nilSlice] 59)
 hx:hi.get (h.next+2)=some (.arr [si (pk pc.op 256),xo,xs] 59)
 hn:hi.get (h.next+3)=some (.arr [si s.need.1,si s.need.2] 3)
 hf:hi.get (h.next+4)=some (.arr [si s.fixed.1,si s.fixed.2] 3)
 so:Sl hi 73 5 false EO xo s.ops nso
 ss:Sl hi 76 2 false ER xs sp nss
 lo:∀ n∈nso++nss,h.next+5<=n/\n<hi.next
 ln:∀ n∈ns',n<h.next∨h.next+5<=n
 nd:(ns'++(nso++nss)).Nodup
 b1:s.need.1<=10/\s.need.2<=10/\s.fixed.1<=s.need.1/\s.fixed.2<=s.need.2
 b2:s.limits<2 ^ 40
theorem j3c (m:Nat×Nat) (wish c:Nat) (need fixed:Nat×Nat) (hc:c<2) (h1:m.1<=10) (h2:m.2<=10) (b:need.1<=10/\need.2<=10/\fixed.1<=need.1/\fixed.2<=need.2):(jbc m wish c need fixed).2.2.1.1<=10/\(jbc m wish c need fixed).2.2.1.2<=10/\(jbc m wish c need fixed).2.2.2.1<=(jbc m wish c need fixed).2.2.1.1/\(jbc m wish c need fixed).2.2.2.2<=(jbc m wish c need fixed).2.2.1.2:=by
 have hc':c=0∨c=1:=by omega
 unfold jbc
 rcases hc' with rfl | rfl
 .split
  .exact b
  .rename_i h3
   simp only[g2,if_true] at h3
   split<;>(simp[g2,s2];omega)
 .split
  .exact b
  .rename_i h3
   simp only[g2,if_false,Nat.one_ne_zero] at h3
   split<;>(simp[g2,s2];omega)
section
variable {F:Fns} (B:Base F)
include B
theorem qdr {ns:List Nat} (pin:Pin pc) {N:Nat} (wk:Wok w N) (hN:N<=100000) {s:Iw} (I:Iv h hi p w ns ns' pc s [] xo .nilSlice nso []) {i:Nat} (hi2:i<pk pc.flags 1073741824 % 4) (hne:w.known≠[]) (hl:s.ops.length=i)
 {a0 a1 a2:AV} {Q:Ex->St->Prop} (hQ:∀ hj xo nso a0 a1 a2,Iv h hj p w ns ns' pc (j2z w pc (pk pc.flags 1073741824) i s) [] xo .nilSlice nso []->W F jff.loop (.mk [.s (.ptr p 0),.agg (jce pc),.s (.ptr (h.next+1) 0),.undef,.undef,.undef,.undef,.undef,.undef,.undef,.undef,.undef,.undef,.undef,.undef,.undef,.undef,.undef,.undef,.undef,.s (.ptr (h.next+2) 0),a0,.s (.slice (h.next+4) 0 2 2 true 1),.s (.slice (h.next+3) 0 2 2 true 1),vi ↑(j2z w pc (pk pc.flags 1073741824) i s).limits,a1,a2,vi ↑(pk pc.flags 1073741824),vi ↑(i+1),.s (.ptr h.next 0)] hj) Q) :
 W F jff.loop (.mk [.s (.ptr p 0),.agg (jce pc),.s (.ptr (h.next+1) 0),.undef,.undef,.undef,.undef,.undef,.undef,.undef,.undef,.undef,.undef,.undef,.undef,.undef,.undef,.undef,.undef,.undef,.s (.ptr (h.next+2) 0),a0,.s (.slice (h.next+4) 0 2 2 true 1),.s (.slice (h.next+3) 0 2 2 true 1),vi ↑s.limits,a1,a2,vi ↑(pk pc.flags 1073741824),vi ↑i,.s (.ptr h.next 0)] hi) Q:=by
 rw[jaj]
 unfold jff jm4
 obtain⟨ok,nx,mr,mv,hp,hr,hx,hn,hf,so,ss,lo,ln,nd,b1,b2⟩:=I
 have mr0:=mr
 obtain⟨⟨a,b,k,n1,n2,n3,hg,hv,hb,hk,e0⟩,hd,hlt⟩:=mr
 have hp0:=hlt p (by simp[e0])
 have hpl:=ln p (by simp[e0])
 have hfl:pk pc.flags 1073741824<1073741824:=jgo (by omega)
 obtain⟨⟨q1,q2⟩,⟨q3,q4⟩,⟨q5,q6⟩,⟨q7,q8⟩,⟨q9,q10⟩,⟨q11,q12⟩,⟨q13,q14⟩⟩:=pin
 have hkl:0<w.known.length:=f1w.2 hne
 have hkn:=wk.nk
 obtain⟨v,hv1⟩:∃ v,w.known[pk (Int.tdiv pc.a (i+1)) w.known.length]?=some v:=by
  have:=jgo (n:=Int.tdiv pc.a (i+1)) hkl
  exact⟨_,f0b this⟩
 have hvl:=wk.known v (f0c hv1)
 obtain⟨kb,krow,kms,ke1,ke2,ke3,⟨rfl,rfl⟩,ke5,ke6⟩:=hk.at hv1
 obtain⟨c,hc1⟩:∃ c,w.values[v]?=some c:=⟨_,f0b hvl⟩
 have hcl:=wk.vals c (f0c hc1)
 obtain⟨vb1,vrow,vms,ve1,ve2,ve3,⟨rfl,rfl⟩,ve5,ve6⟩:=hv.at hc1
 have hkb:=hlt kb (by simp[e0,ke6])
 have hvb:=hlt vb1 (by simp[e0,ve6])
 have htd:=j8y q5 q6 (b:=i+1) (by omega)
 have kk:=hk.len
 obtain⟨fs,hfs⟩:∃ fs,pk pc.flags 1073741824 / 2 ^ (4+i)=fs:=⟨_,rfl⟩
 have hfs2:fs<1073741824:=by have:=f3j (pk pc.flags 1073741824) (2 ^ (4+i));omega
 have hli:(1+(s.limits:Int) % 4)=((1+s.limits % 4:Nat):Int):=by omega
 simp(disch:=first|omega|rfl|simp only[List.length]) only[go_sem,jf1,jf2,jf3,jf4,jf5,jb5,jam,jai,jba B,hp,hg,kk,jad,qwp,qwo,jce,ke1,ke2,ve1,ve2,hv1,jj5,jdz,jd0,jj6,jj7,and_false,false_and,if_false,jfs,jft,jdo,jdp,jdq,jdr,jjy,jbs,hfs,hli]
 obtain⟨hA,eA⟩:∃ hA,hA=(hi.push (AB.arr [SV.int IntKind.i64 0,SV.int IntKind.i64 0,SV.bool false,SV.int IntKind.i64 0,SV.int IntKind.i64 0] 73)).put hi.next (some (AB.arr [SV.int IntKind.i64 1,si ↑v,SV.bool (decide (fs % 2=1)),SV.int IntKind.i64 0,SV.int IntKind.i64 0] 73)):=⟨_,rfl⟩
 rw[←eA]
 have okA:Ok hA:=by rw[eA];exact jas (ja4 ok)
 have gA:∀ n,n<hi.next->hA.get n=hi.get n:=fun n hn=>by
  rw[eA,jak (ja4 ok) ok.pos,ja6 ok,if_neg (by omega),if_neg (by omega)]
 have oA:hA.get hi.next=some (AB.arr [SV.int IntKind.i64 1,si ↑v,SV.bool (decide (fs % 2=1)),SV.int IntKind.i64 0,SV.int IntKind.i64 0] 73):=by
  rw[eA,jak (ja4 ok) ok.pos,if_pos rfl]
 have nA:hA.next=hi.next+1:=by rw[eA,Hp.next_put,Hp.next_push]
 clear eA
 refine WC.imp (j3b B (m:=w.m) (need:=s.need) (fixed:=s.fixed) (bn:=h.next+3) (bf:=h.next+4) (a:=a) (b:=b) (k:=k) (x:=si w.cur) (y:=si w.all) okA ((gA p hp0.2).trans hg) ((gA _ (by omega)).trans hn) ((gA _ (by omega)).trans hf) (by omega) (by omega) (by omega) _ c hcl (by have:=wk.m1;omega) (by have:=wk.m2;omega) (by omega) (by omega) (by omega) (by omega)) ?_
 rintro _ h2 ⟨rfl,ok2,nx2,hn2,hf2,kp2⟩
 have o2:=(kp2 hi.next (by omega) (by omega)).trans oA
 have x2:=((kp2 (h.next+2) (by omega) (by omega)).trans (gA _ (by omega))).trans hx
 have hbd:=j3c w.m (1+s.limits % 4) c s.need s.fixed hcl (by have:=wk.m1;omega) (by have:=wk.m2;omega) b1
 obtain⟨lm,hlm⟩:∃ lm,jbc w.m (1+s.limits % 4) c s.need s.fixed=lm:=⟨_,rfl⟩
 rw[hlm] at hn2 hf2 hbd
 rw[hlm]
 simp(disch:=first|omega|rfl|simp only[List.length]) only[go_sem,o2,x2,jj5,jdz,jd0,jj6,jj7,and_false,false_and,if_false,nx2,nA]
 obtain⟨h3,e3⟩:∃ h3,h3=(h2.put hi.next (some (AB.arr [SV.int IntKind.i64 1,si ↑v,SV.bool (decide (fs % 2=1)),si ↑lm.1,SV.int IntKind.i64 0] 73))).put hi.next (some (AB.arr [SV.int IntKind.i64 1,si ↑v,SV.bool (decide (fs % 2=1)),si ↑lm.1,si ↑lm.2.1] 73)):=⟨_,rfl⟩
 rw[←e3]
 have ok3:Ok h3:=by rw[e3];exact jas (jas ok2)
 have g3:∀ n,n≠hi.next->h3.get n=h2.get n:=fun n hn=>by
  rw[e3,jak (jas ok2) ok.pos,if_neg hn,jak ok2 ok.pos,if_neg hn]
 have n3:h3.next=hi.next+1:=by rw[e3,Hp.next_put,Hp.next_put,nx2,nA]
 clear e3
 have old:∀ n,n<hi.next->n≠h.next+3->n≠h.next+4->h3.get n=hi.get n:=fun n h1 h2' h3'=>(g3 n (by omega)).trans ((kp2 n h2' h3').trans (gA n h1))
 have hnd:=f0r.1 nd
 have hlo:∀ n∈nso,h.next+5<=n/\n<hi.next:=fun n hn=>lo n (by simp[hn])
 have so3:=so.keep (h':=h3) (fun n hn=>old n (hlo n hn).2 (by have:=(hlo n hn).1;omega) (by have:=(hlo n hn).1;omega))
 obtain⟨h4,e4,ok4,nx4,kp4,kt4,sl4⟩:=so3.app1 (bytes:=40) (row:=jbi ⟨1,v,decide (fs % 2=1),lm.1,lm.2.1⟩) (a:=⟨1,v,decide (fs % 2=1),lm.1,lm.2.1⟩) (ms:=[]) ok3 (fun n hn=>by have:=hlo n hn;omega) rfl ⟨rfl,rfl⟩ (by omega) (by omega)
 have e4':juf (h3.push (AB.arr [SV.int IntKind.i64 1,si ↑v,SV.bool (decide (fs % 2=1)),si ↑lm.1,si ↑lm.2.1] 73)) 73 5 40 (AV.s xo) (AV.s (SV.slice (hi.next+1) 0 1 1 true 5))=some (AV.s (SV.slice (hi.next+1+1) 0 (s.ops.length+1) (s.ops.length+1) false 5),h4):=by rw[n3] at e4;exact e4
 rw[n3] at sl4
 have x4:h4.get (h.next+2)=_:=(kp4 (h.next+2) (by omega) (fun hn=>by have:=(hlo _ hn).1;omega)).trans ((g3 _ (by omega)).trans x2)
 simp(disch:=first|omega|rfl|simp only[List.length]) only[go_sem,e4',x4,jj5,jdz,jd0,jj6,jj7,and_false,false_and,if_false,jfs,jft,jdo,jdp,jdq,jdr,jjy,jbs,jad]
 have hU:j2z w pc (pk pc.flags 1073741824) i s=⟨s.ops++[⟨1,v,decide (fs % 2=1),lm.1,lm.2.1⟩],s.limits / 4,lm.2.2.1,lm.2.2.2⟩:=by
  unfold j2z
  simp only[f0f,hv1,hc1,f1t,hlm,hfs]
 have hQ':=hQ (h4.put (h.next+2) (some (AB.arr [si ↑(pk pc.op 256),SV.slice (hi.next+2) 0 (s.ops.length+1) (s.ops.length+1) false 5,SV.nilSlice] 59))) (SV.slice (hi.next+2) 0 (s.ops.length+1) (s.ops.length+1) false 5) ((hi.next+2)::(nso.tail++[]))
 rw[hU] at hQ'
 refine hQ' _ _ _ ?_
 clear hQ' hQ
 have g5:∀ n,n≠h.next+2->(h4.put (h.next+2) (some (AB.arr [si ↑(pk pc.op 256),SV.slice (hi.next+2) 0 (s.ops.length+1) (s.ops.length+1) false 5,SV.nilSlice] 59))).get n=h4.get n:=fun n hn=>by
  rw[jak ok4 (by omega),if_neg hn]
 have x5:(h4.put (h.next+2) (some (AB.arr [si ↑(pk pc.op 256),SV.slice (hi.next+2) 0 (s.ops.length+1) (s.ops.length+1) false 5,SV.nilSlice] 59))).get (h.next+2)=some (AB.arr [si ↑(pk pc.op 256),SV.slice (hi.next+2) 0 (s.ops.length+1) (s.ops.length+1) false 5,SV.nilSlice] 59):=by
  rw[jak ok4 (by omega),if_pos rfl]
 have n5:(h4.put (h.next+2) (some (AB.arr [si ↑(pk pc.op 256),SV.slice (hi.next+2) 0 (s.ops.length+1) (s.ops.length+1) false 5,SV.nilSlice] 59))).next=hi.next+3:=by
  rw[Hp.next_put,nx4,n3]
 have ok5:Ok (h4.put (h.next+2) (some (AB.arr [si ↑(pk pc.op 256),SV.slice (hi.next+2) 0 (s.ops.length+1) (s.ops.length+1) false 5,SV.nilSlice] 59))):=jas ok4
 generalize h4.put (h.next+2) (some (AB.arr [si ↑(pk pc.op 256),SV.slice (hi.next+2) 0 (s.ops.length+1) (s.ops.length+1) false 5,SV.nilSlice] 59))=h5 at g5 x5 n5 ok5
 have k5:∀ n,n<hi.next->n≠h.next+2->n≠h.next+3->n≠h.next+4->n∉nso->h5.get n=hi.get n:=fun n h1 h2' h3' h4' h5'=>(g5 n h2').trans ((kp4 n (by omega) h5').trans (old n h1 h3' h4'))
 have dj:∀ n∈ns',n∉nso:=fun n hn h1=>hnd.2.2 n hn n (by simp[h1]) rfl
 have nsl:∀ n,n<h.next+5->n∉nso:=fun n h1 h2'=>by have:=(hlo n h2').1;omega
 refine⟨ok5,by omega,mr0.keep (fun n hn=>k5 n (hlt n hn).2 (by have:=ln n hn;omega) (by have:=ln n hn;omega) (by have:=ln n hn;omega) (dj n hn)) (by omega),⟨ok5,by have:=mv.nx;omega,mv.new,fun n h1 h2'=>(k5 n (by omega) (by omega) (by omega) (by omega) (nsl n (by omega))).trans (mv.keep n h1 h2')⟩,
  (k5 _ (by omega) (by omega) (by omega) (by omega) (nsl _ (by omega))).trans hp,(k5 _ (by omega) (by omega) (by omega) (by omega) (nsl _ (by omega))).trans hr,x5,
  (g5 _ (by omega)).trans ((kp4 _ (by omega) (nsl _ (by omega))).trans ((g3 _ (by omega)).trans hn2)),(g5 _ (by omega)).trans ((kp4 _ (by omega) (nsl _ (by omega))).trans ((g3 _ (by omega)).trans hf2)),
  ?_,.nil,fun n hn=>?_,ln,?_,hbd,by simp only;omega⟩
 .have:=(sl4 (E':=EO) (fun _ _ _ _ h=>h)).keep (h':=h5) (fun n hn=>g5 n (by
   rcases f0j.1 hn with rfl | hn
   .omega
   .have:=(hlo n (f0o (by simpa using hn))).1;omega))
  exact this
 .rw [f1c] at hn
  rcases f0j.1 hn with rfl | hn
  .omega
  .have:=hlo n (f0o (by simpa using hn));omega
 .refine jg6 (ns:=nso) (N:=hi.next) nd (fun n hn=>?_) (jdk (f0r.1 hnd.2.1).1 .nil (by simp) (fun h1=>by have:=(hlo _ h1).2;omega) (by simp)) (fun n hn=>?_)
  .rcases f0e.1 hn with hn | hn
   .exact (hlt n hn).2
   .exact (lo n hn).2
  .rcases f0j.1 hn with rfl | hn
   .exact .inr (by omega)
   .exact .inl (f0o (by simpa using hn))
theorem jx6 {ns:List Nat} (pin:Pin pc) {N:Nat} (wk:Wok w N) (hN:N<=100000) {Q:Ex->St->Prop}:∀ (d:Nat) {hi:Hp} {ns':List Nat} {s:Iw} {xo:SV} {nso:List Nat} (_:Iv h hi p w ns ns' pc s [] xo .nilSlice nso []) {i:Nat} (_:s.ops.length=i) (_:if w.known=[] then d=0/\i=0 else i+d=pk pc.flags 1073741824 % 4)
 {a0 a1 a2:AV} (hQ:∀ hj ns' xo nso a0 a1 a2,Iv h hj p w ns ns' pc (jfu w pc (pk pc.flags 1073741824) d i s) [] xo .nilSlice nso []->(jfu w pc (pk pc.flags 1073741824) d i s).ops.length=i+d->Q (.exit 0) (.mk [.s (.ptr p 0),.agg (jce pc),.s (.ptr (h.next+1) 0),.undef,.undef,.undef,.undef,.undef,.undef,.undef,.undef,.undef,.undef,.undef,.undef,.undef,.undef,.undef,.undef,.undef,.s (.ptr (h.next+2) 0),a0,.s (.slice (h.next+4) 0 2 2 true 1),.s (.slice (h.next+3) 0 2 2 true 1),vi ↑(jfu w pc (pk pc.flags 1073741824) d i s).limits,a1,a2,vi ↑(pk pc.flags 1073741824),vi ↑(i+d),.s (.ptr h.next 0)] hj)),
 W F jff.loop (.mk [.s (.ptr p 0),.agg (jce pc),.s (.ptr (h.next+1) 0),.undef,.undef,.undef,.undef,.undef,.undef,.undef,.undef,.undef,.undef,.undef,.undef,.undef,.undef,.undef,.undef,.undef,.s (.ptr (h.next+2) 0),a0,.s (.slice (h.next+4) 0 2 2 true 1),.s (.slice (h.next+3) 0 2 2 true 1),vi ↑s.limits,a1,a2,vi ↑(pk pc.flags 1073741824),vi ↑i,.s (.ptr h.next 0)] hi) Q
 | 0,hi,ns',s,xo,nso,I,i,hl,hd,a0,a1,a2,hQ=>by
  rw[jaj]
  unfold jff jm4
  have hfl:pk pc.flags 1073741824<1073741824:=jgo (by omega)
  obtain⟨⟨a,b,k,n1,n2,n3,hg,hv,hb,hk,e0⟩,hd',hlt⟩:=I.mr
  have kk:=hk.len
  have hkn:=wk.nk
  by_cases hkn0:w.known=[]
  .rw [if_pos hkn0] at hd
   obtain⟨_,rfl⟩:=hd
   rw[hkn0] at kk
   by_cases hc:(0:Int)<(pk pc.flags 1073741824:Int) % 4
   .simp (disch:=first|omega|rfl|simp only[List.length]) only[go_sem,hc,hg,kk,f1b,jj5,jdz,jd0,jj6,jj7,and_false,false_and,if_false,f0s]
    exact hQ hi ns' xo nso _ _ _ I hl
   .simp (disch:=first|omega|rfl|simp only[List.length]) only[go_sem,hc,hg,kk,f1b,jj5,jdz,jd0,jj6,jj7,and_false,false_and,if_false,f0s]
    exact hQ hi ns' xo nso _ _ _ I hl
  .rw [if_neg hkn0] at hd
   have hc:¬ (i:Int)<(pk pc.flags 1073741824:Int) % 4:=by omega
   simp(disch:=first|omega|rfl|simp only[List.length]) only[go_sem,hc,hg,kk,jj5,jdz,jd0,jj6,jj7,and_false,false_and,if_false]
   exact hQ hi ns' xo nso _ _ _ I hl
 | d+1,hi,ns',s,xo,nso,I,i,hl,hd,a0,a1,a2,hQ=>by
  by_cases hkn0:w.known=[]
  .rw [if_pos hkn0] at hd;omega
  .rw [if_neg hkn0] at hd
   refine qdr B pin wk hN I (by omega) hkn0 hl (fun hj xo nso b0 b1 b2 I'=>?_)
   have hl':(j2z w pc (pk pc.flags 1073741824) i s).ops.length=i+1:=by unfold j2z;simp[hl]
   refine jx6 pin wk hN d I' hl' (by rw[if_neg hkn0];omega) (fun hj ns' xo nso c0 c1 c2 I'' hl''=>?_)
   have e1:jfu w pc (pk pc.flags 1073741824) (d+1) i s=jfu w pc (pk pc.flags 1073741824) d (i+1) (j2z w pc (pk pc.flags 1073741824) i s):=rfl
   have hQ':=hQ hj ns' xo nso c0 c1 c2
   rw[e1] at hQ'
   have e2:i+1+d=i+(d+1):=by omega
   rw[e2] at hl'' ⊢
   exact hQ' I'' hl''
end
theorem Iv.upd {hj:Hp} {w':Ms} {ns ns2:List Nat} {s:Iw} {sp:List (Nat×Nat)} (I:Iv h hi p w ns ns' pc s sp xo xs nso nss) {need fixed:Nat×Nat} {lim:Nat} (okj:Ok hj) (mn:hi.next<=hj.next) (new:∀ n∈ns2,n∈ns'∨hi.next<=n) (mr:MR tt hj p w' ns2) (hn:hj.get (h.next+3)=some (.arr [si need.1,si need.2] 3)) (hf:hj.get (h.next+4)=some (.arr [si fixed.1,si fixed.2] 3))
 (kp:∀ n,n<hi.next->n∉ns'->n≠h.next+3->n≠h.next+4->(n<h.next∨n<=h.next+2∨n∈nso++nss)->hj.get n=hi.get n) (b1:need.1<=10/\need.2<=10/\fixed.1<=need.1/\fixed.2<=need.2) (b2:lim<2 ^ 40):Iv h hj p w' ns ns2 pc ⟨s.ops,lim,need,fixed⟩ sp xo xs nso nss:=by
 obtain⟨ok,nx,mr0,mv0,hp,hr,hx,hn0,hf0,so,ss,lo,ln,nd,_,_⟩:=I
 have hnd:=f0r.1 nd
 have dj:∀ n∈nso++nss,n∉ns':=fun n hn h1=>hnd.2.2 n h1 n hn rfl
 have e:∀ n,h.next<=n->n<=h.next+2->hj.get n=hi.get n:=fun n h1 h2=>kp n (by omega) (fun h3=>by have:=ln n h3;omega) (by omega) (by omega) (.inr (.inl h2))
 have e2:∀ n∈nso++nss,hj.get n=hi.get n:=fun n hn=>kp n (lo n hn).2 (dj n hn) (by have:=(lo n hn).1;omega) (by have:=(lo n hn).1;omega) (.inr (.inr hn))
 refine⟨okj,by omega,mr,⟨okj,by have:=mv0.nx;omega,fun n h1=>?_,fun n h1 h2=>?_⟩,(e _ (by omega) (by omega)).trans hp,(e _ (by omega) (by omega)).trans hr,(e _ (by omega) (by omega)).trans hx,hn,hf,so.keep (fun n hn=>e2 n (by simp[hn])),ss.keep (fun n hn=>e2 n (by simp[hn])),fun n h1=>⟨(lo n h1).1,by have:=(lo n h1).2;omega⟩,fun n h1=>?_,?_,b1,b2⟩
 .rcases new n h1 with h2 | h2
  .exact mv0.new n h2
  .exact .inr (by omega)
 .have h3:n∉ns':=fun h3=>by
   rcases mv0.new n h3 with h4 | h4
   .exact h2 h4
   .omega
  exact(kp n (by omega) h3 (by omega) (by omega) (.inl h1)).trans (mv0.keep n h1 h2)
 .rcases new n h1 with h2 | h2
  .exact ln n h2
  .exact .inr (by omega)
 .rw [f0r]
  refine⟨mr.nodup,hnd.2.1,fun a ha b hb e=>?_⟩
  subst e
  rcases new a ha with h2 | h2
  .exact dj a hb h2
  .have:=(lo a hb).2;omega
theorem Iv.app {ns:List Nat} {s:Iw} {sp:List (Nat×Nat)} (I:Iv h hi p w ns ns' pc s sp xo xs nso nss) (hl:s.ops.length<=100) (o:Ms.Opd) :
 ∃ h4 nso',juf (hi.push (.arr (jbi o) 73)) 73 5 40 (.s xo) (.s (.slice hi.next 0 1 1 true 5))=some (.s (.slice (hi.next+1) 0 (s.ops.length+1) (s.ops.length+1) false 5),h4)/\Ok h4/\h4.get (h.next+2)=some (.arr [si (pk pc.op 256),xo,xs] 59) /\
  Iv h (h4.put (h.next+2) (some (.arr [si (pk pc.op 256),.slice (hi.next+1) 0 (s.ops.length+1) (s.ops.length+1) false 5,xs] 59))) p w ns ns' pc { s with ops:=s.ops++[o] } sp (.slice (hi.next+1) 0 (s.ops.length+1) (s.ops.length+1) false 5) xs nso' nss:=by
 obtain⟨ok,nx,mr0,mv0,hp,hr,hx,hn0,hf0,so,ss,lo,ln,nd,b1,b2⟩:=I
 have hlo:∀ n∈nso,h.next+5<=n/\n<hi.next:=fun n hn=>lo n (by simp[hn])
 have hnd:=f0r.1 nd
 have hnd2:=f0r.1 hnd.2.1
 obtain⟨h4,e4,ok4,nx4,kp4,kt4,sl4⟩:=so.app1 (bytes:=40) (row:=jbi o) (a:=o) (ms:=[]) ok (fun n hn=>by have:=hlo n hn;omega) rfl ⟨rfl,rfl⟩ (by omega) (by omega)
 have nsl:∀ n,n<h.next+5->n∉nso:=fun n h1 h2'=>by have:=(hlo n h2').1;omega
 refine⟨h4,(hi.next+1)::(nso.tail++[]),e4,ok4,(kp4 _ (by omega) (nsl _ (by omega))).trans hx,?_⟩
 have g5:∀ n,n≠h.next+2->(h4.put (h.next+2) (some (AB.arr [si ↑(pk pc.op 256),SV.slice (hi.next+1) 0 (s.ops.length+1) (s.ops.length+1) false 5,xs] 59))).get n=h4.get n:=fun n hn=>by
  rw[jak ok4 (by omega),if_neg hn]
 have x5:(h4.put (h.next+2) (some (AB.arr [si ↑(pk pc.op 256),SV.slice (hi.next+1) 0 (s.ops.length+1) (s.ops.length+1) false 5,xs] 59))).get (h.next+2)=some (AB.arr [si ↑(pk pc.op 256),SV.slice (hi.next+1) 0 (s.ops.length+1) (s.ops.length+1) false 5,xs] 59):=by
  rw[jak ok4 (by omega),if_pos rfl]
 have n5:(h4.put (h.next+2) (some (AB.arr [si ↑(pk pc.op 256),SV.slice (hi.next+1) 0 (s.ops.length+1) (s.ops.length+1) false 5,xs] 59))).next=hi.next+2:=by
  rw[Hp.next_put,nx4]
 have ok5:Ok (h4.put (h.next+2) (some (AB.arr [si ↑(pk pc.op 256),SV.slice (hi.next+1) 0 (s.ops.length+1) (s.ops.length+1) false 5,xs] 59))):=jas ok4
 generalize h4.put (h.next+2) (some (AB.arr [si ↑(pk pc.op 256),SV.slice (hi.next+1) 0 (s.ops.length+1) (s.ops.length+1) false 5,xs] 59))=h5 at g5 x5 n5 ok5
 have k5:∀ n,n<hi.next->n≠h.next+2->n∉nso->h5.get n=hi.get n:=fun n h1 h2' h5'=>(g5 n h2').trans (kp4 n h1 h5')
 have dj:∀ n∈ns',n∉nso:=fun n hn h1=>hnd.2.2 n hn n (by simp[h1]) rfl
 refine⟨ok5,by omega,mr0.keep (fun n hn=>k5 n (mr0.lt n hn).2 (by have:=ln n hn;omega) (dj n hn)) (by omega),⟨ok5,by have:=mv0.nx;omega,mv0.new,fun n h1 h2'=>(k5 n (by omega) (by omega) (nsl n (by omega))).trans (mv0.keep n h1 h2')⟩,
  (k5 _ (by omega) (by omega) (nsl _ (by omega))).trans hp,(k5 _ (by omega) (by omega) (nsl _ (by omega))).trans hr,x5,(k5 _ (by omega) (by omega) (nsl _ (by omega))).trans hn0,(k5 _ (by omega) (by omega) (nsl _ (by omega))).trans hf0,
  ?_,ss.keep (fun n hn=>k5 n (lo n (by simp[hn])).2 (by have:=(lo n (by simp[hn])).1;omega) (fun h1=>hnd2.2.2 n h1 n hn rfl)),fun n hn=>?_,ln,?_,b1,b2⟩
 .exact (sl4 (E':=EO) (fun _ _ _ _ h=>h)).keep (h':=h5) (fun n hn=>g5 n (by
   rcases f0j.1 hn with rfl | hn
   .omega
   .have:=(hlo n (f0o (by simpa using hn))).1;omega))
 .rcases f0e.1 hn with hn | hn
  .rcases f0j.1 hn with rfl | hn
   .omega
   .have:=hlo n (f0o (by simpa using hn));omega
  .have:=lo n (by simp[hn]);omega
 .refine jg6 (ns:=nso) (B:=nss) (N:=hi.next) nd (fun n hn=>?_) (jdk hnd2.1 .nil (by simp) (fun h1=>by have:=(hlo _ h1).2;omega) (by simp)) (fun n hn=>?_)
  .rcases f0e.1 hn with hn | hn
   .exact (mr0.lt n hn).2
   .exact (lo n hn).2
  .rcases f0j.1 hn with rfl | hn
   .exact .inr (by omega)
   .exact .inl (f0o (by simpa using hn))
section
variable {F:Fns} (B:Base F)
include B
abbrev frD (h:Hp) (p:Nat) (pc:Pc) (x9 x10 x11 x12 x13 x14 x15 x16 x17 x18 x19 a0 x24 a1 a2 a3:AV):List AV:=[.s (.ptr p 0),.agg (jce pc),.s (.ptr (h.next+1) 0),.undef,.undef,.undef,.undef,.undef,.undef,x9,x10,x11,x12,x13,x14,x15,x16,x17,x18,x19,.s (.ptr (h.next+2) 0),a0,.s (.slice (h.next+4) 0 2 2 true 1),.s (.slice (h.next+3) 0 2 2 true 1),x24,a1,a2,vi ↑(pk pc.flags 1073741824),a3,.s (.ptr h.next 0)]
theorem jx7 {ns:List Nat} {N:Nat} (wk:Wok w N) (hN:N<=100000) {s:Iw} (I:Iv h hi p w ns ns' pc s [] xo .nilSlice nso []) (hl:s.ops.length<=10) {lim n:Nat} (hc:cls<2)
 (ho:hi.get oN=some (.arr [si 2,si 0,.bool late,si lim,si n] 73)) (hoN:h.next+5<=oN/\oN<hi.next/\oN∉nso/\oN∉ns') {x9 x11 x13 x14 x15 x16 x17 x18 x19 a0 x24 a1 a2 a3:AV} {Q:Ex->St->Prop}
 (hQ:∀ hj ns'' xo' nso',Iv h hj p { w with values:=w.values++[cls] } ns ns'' pc { s with ops:=s.ops++[⟨2,w.values.length,late,lim,n⟩] } [] xo' .nilSlice nso' []->Q .normal (.mk (frD h p pc x9 (.s (.ptr oN 0)) x11 (vi cls) x13 x14 x15 x16 x17 x18 x19 a0 x24 a1 a2 a3) hj)) :
 W F jm5 (.mk (frD h p pc x9 (.s (.ptr oN 0)) x11 (vi cls) x13 x14 x15 x16 x17 x18 x19 a0 x24 a1 a2 a3) hi) Q:=by
 unfold jm5
 obtain⟨ok,nx,mr,mv,hp,hr,hx,hn,hf,so,ss,lo,ln,nd,b1,b2⟩:=I
 simp(disch:=first|omega|rfl|simp only[List.length]) only[go_sem,jce]
 refine WC.imp (j3a B ok mr cls hc (by have:=wk.nv;omega)) ?_
 rintro _ h2 ⟨rfl,ns2,mr2,mv2⟩
 have I:Iv h hi p w ns ns' pc s [] xo .nilSlice nso []:=⟨ok,nx,mr,mv,hp,hr,hx,hn,hf,so,ss,lo,ln,nd,b1,b2⟩
 have k2:=mv2.keep
 have hnn:=mv2.nx
 have o2:=(k2 oN hoN.2.1 hoN.2.2.2).trans ho
 have ok2:=mv2.ok
 have x2:h2.get (h.next+2)=_:=(k2 _ (by omega) (fun h1=>by have:=ln _ h1;omega)).trans hx
 simp(disch:=first|omega|rfl|simp only[List.length]) only[go_sem,o2,x2,jj5,jdz,jd0,jj6,jj7,and_false,false_and,if_false]
 have I2:=I.upd (s:=s) (need:=s.need) (fixed:=s.fixed) (lim:=s.limits) ok2 hnn mv2.new mr2 ((k2 _ (by omega) (fun h1=>by have:=ln _ h1;omega)).trans hn) ((k2 _ (by omega) (fun h1=>by have:=ln _ h1;omega)).trans hf) (fun n h1 h3 _ _ _=>k2 n h1 h3) b1 b2
 have n2o:oN∉ns2:=fun h1=>by
  rcases mv2.new oN h1 with h3 | h3
  .exact hoN.2.2.2 h3
  .omega
 obtain⟨h3,e3⟩:∃ h3,h3=h2.put oN (some (AB.arr [SV.int IntKind.i64 2,si ↑w.values.length,.bool late,si lim,si n] 73)):=⟨_,rfl⟩
 have ok3:Ok h3:=by rw[e3];exact jas ok2
 have g3:∀ n,n≠oN->h3.get n=h2.get n:=fun n hn=>by rw[e3,jak ok2 (by omega),if_neg hn]
 have nx3:h3.next=h2.next:=by rw[e3,Hp.next_put]
 have I3:=I2.upd (hj:=h3) (w':={ w with values:=w.values++[cls] }) (ns2:=ns2) (need:=s.need) (fixed:=s.fixed) (lim:=s.limits) ok3 (by omega) (fun n hn=>.inl hn) (mr2.keep (fun n hn=>g3 n (fun e=>n2o (e▸hn))) (by omega)) ((g3 _ (by omega)).trans I2.hn) ((g3 _ (by omega)).trans I2.hf) (fun n h1 h3' h4 h5 h6=>g3 n (fun e=>by
  subst e
  rcases h6 with h6 | h6 | h6
  .omega
  .omega
  .exact hoN.2.2.1 (by simpa using h6))) b1 b2
 rw[←e3]
 obtain⟨h4,nso',e4,ok4,x4,I4⟩:=I3.app (by simpa using by omega) ⟨2,w.values.length,late,lim,n⟩
 have e4':juf (h3.push (AB.arr [SV.int IntKind.i64 2,si ↑w.values.length,.bool late,si lim,si n] 73)) 73 5 40 (AV.s xo) (AV.s (SV.slice h2.next 0 1 1 true 5))=some (AV.s (SV.slice (h2.next+1) 0 (s.ops.length+1) (s.ops.length+1) false 5),h4):=by rw[nx3] at e4;exact e4
 simp(disch:=first|omega|rfl|simp only[List.length]) only[go_sem,e4',x4,jj5,jdz,jd0,jj6,jj7,and_false,false_and,if_false]
 rw[nx3] at I4
 exact hQ _ _ _ _ I4
theorem j5x {ns:List Nat} {N:Nat} (wk:Wok w N) (hN:N<=100000) {s:Iw} (I:Iv h hi p w ns ns' pc s [] xo .nilSlice nso []) (hl:s.ops.length<=10) {wish:Nat} (hc:cls<2)
 (ho:hi.get oN=some (.arr [si 2,si 0,.bool late,si 0,si 0] 73)) (hoN:h.next+5<=oN/\oN<hi.next/\oN∉nso/\oN∉ns') {x9 x11 x13 x14 x15 x16 x18 x19 a0 x24 a1 a2 a3:AV} {Q:Ex->St->Prop}
 (hQ:∀ hj ns'' xo' nso' x9,Iv h hj p { w with values:=w.values++[cls] } ns ns'' pc ⟨s.ops++[⟨2,w.values.length,late,(jbc w.m wish cls s.need s.fixed).1,(jbc w.m wish cls s.need s.fixed).2.1⟩],s.limits,(jbc w.m wish cls s.need s.fixed).2.2.1,(jbc w.m wish cls s.need s.fixed).2.2.2⟩ [] xo' .nilSlice nso' []->Q .normal (.mk (frD h p pc x9 (.s (.ptr oN 0)) x11 (vi cls) x13 x14 x15 x16 (vi wish) x18 x19 a0 x24 a1 a2 a3) hj)) :
 W F jem (.mk (frD h p pc x9 (.s (.ptr oN 0)) x11 (vi cls) x13 x14 x15 x16 (vi wish) x18 x19 a0 x24 a1 a2 a3) hi) Q:=by
 unfold jem
 have I0:=I
 obtain⟨ok,nx,mr,mv,hp,hr,hx,hn,hf,so,ss,lo,ln,nd,b1,b2⟩:=I
 obtain⟨⟨a,b,k,n1,n2,n3,hg,hv,hb,hk,e0⟩,hd',hlt⟩:=id mr
 have hp0:=hlt p (by simp[e0])
 simp(disch:=first|omega|rfl|simp only[List.length]) only[go_sem,ho,jce]
 refine WC.imp (j3b B (m:=w.m) (need:=s.need) (fixed:=s.fixed) (bn:=h.next+3) (bf:=h.next+4) (a:=a) (b:=b) (k:=k) (x:=si w.cur) (y:=si w.all) ok hg hn hf (by omega) (by omega) (by omega) _ cls hc (by have:=wk.m1;omega) (by have:=wk.m2;omega) (by omega) (by omega) (by omega) (by omega)) ?_
 rintro _ h2 ⟨rfl,ok2,nx2,hn2,hf2,kp2⟩
 have hbd:=j3c w.m wish cls s.need s.fixed hc (by have:=wk.m1;omega) (by have:=wk.m2;omega) b1
 obtain⟨lm,hlm⟩:∃ lm,jbc w.m wish cls s.need s.fixed=lm:=⟨_,rfl⟩
 simp only[hlm] at hn2 hf2 hbd hQ ⊢
 have o2:=(kp2 oN (by omega) (by omega)).trans ho
 simp(disch:=first|omega|rfl|simp only[List.length]) only[go_sem,o2,jj5,jdz,jd0,jj6,jj7,and_false,false_and,if_false]
 have I2:=I0.upd (hj:=h2) (w':=w) (ns2:=ns') (need:=lm.2.2.1) (fixed:=lm.2.2.2) (lim:=s.limits) ok2 (by omega) (fun n hn=>.inl hn) (mr.keep (fun n hn=>kp2 n (by have:=ln n hn;omega) (by have:=ln n hn;omega)) (by omega)) hn2 hf2 (fun n _ _ h4 h5 _=>kp2 n h4 h5) hbd b2
 obtain⟨h3,e3⟩:∃ h3,h3=(h2.put oN (some (AB.arr [SV.int IntKind.i64 2,SV.int IntKind.i64 0,.bool late,si ↑lm.1,SV.int IntKind.i64 0] 73))).put oN (some (AB.arr [SV.int IntKind.i64 2,SV.int IntKind.i64 0,.bool late,si ↑lm.1,si ↑lm.2.1] 73)):=⟨_,rfl⟩
 rw[←e3]
 have ok3:Ok h3:=by rw[e3];exact jas (jas ok2)
 have g3:∀ n,n≠oN->h3.get n=h2.get n:=fun n hn=>by
  rw[e3,jak (jas ok2) (by omega),if_neg hn,jak ok2 (by omega),if_neg hn]
 have o3:h3.get oN=some (AB.arr [SV.int IntKind.i64 2,SV.int IntKind.i64 0,.bool late,si ↑lm.1,si ↑lm.2.1] 73):=by rw[e3,jak (jas ok2) (by omega),if_pos rfl]
 have nx3:h3.next=hi.next:=by rw[e3,Hp.next_put,Hp.next_put,nx2]
 have I3:=I2.upd (hj:=h3) (w':=w) (ns2:=ns') (need:=lm.2.2.1) (fixed:=lm.2.2.2) (lim:=s.limits) ok3 (by omega) (fun n hn=>.inl hn) (I2.mr.keep (fun n hn=>g3 n (fun e=>hoN.2.2.2 (e▸hn))) (by omega)) ((g3 _ (by omega)).trans I2.hn) ((g3 _ (by omega)).trans I2.hf) (fun n h1 h3' h4 h5 h6=>g3 n (fun e=>by
  subst e
  rcases h6 with h6 | h6 | h6
  .omega
  .omega
  .exact hoN.2.2.1 (by simpa using h6))) hbd b2
 exact jx7 B wk hN I3 hl hc o3 ⟨hoN.1,by omega,hoN.2.2⟩ (fun hj ns'' xo' nso' I4=>hQ hj ns'' xo' nso' _ I4)
theorem j5y {ns:List Nat} {N:Nat} (wk:Wok w N) (hN:N<=100000) {s:Iw} (I:Iv h hi p w ns ns' pc s [] xo .nilSlice nso []) (hl:s.ops.length<=10) {n:Nat} (hc:cls<2)
 (ho:hi.get oN=some (.arr [si 2,si 0,.bool true,si 5,si n] 73)) (hoN:h.next+5<=oN/\oN<hi.next/\oN∉nso/\oN∉ns') {x9 x11 x13 x14 x15 x16 x17 x18 x19 a0 x24 a1 a2 a3:AV} {Q:Ex->St->Prop}
 (hQ:∀ hj ns'' xo' nso' x9,Iv h hj p { w with values:=w.values++[cls] } ns ns'' pc { s with ops:=s.ops++[⟨2,w.values.length,true,5,n⟩] } [] xo' .nilSlice nso' []->Q .normal (.mk (frD h p pc x9 (.s (.ptr oN 0)) x11 (vi cls) x13 x14 x15 x16 x17 x18 x19 a0 x24 a1 a2 a3) hj)) :
 W F jem (.mk (frD h p pc x9 (.s (.ptr oN 0)) x11 (vi cls) x13 x14 x15 x16 x17 x18 x19 a0 x24 a1 a2 a3) hi) Q:=by
 unfold jem
 simp(disch:=first|omega|rfl|simp only[List.length]) only[go_sem,ho,jce]
 have o3:hi.get oN=some (.arr [si 2,si 0,.bool true,si (5:Nat),si n] 73):=ho
 exact jx7 B wk hN I hl hc o3 hoN (fun hj ns'' xo' nso' I4=>hQ hj ns'' xo' nso' _ I4)
end
end
end Go.Proofs.YtdbklpgagdbpiaaDoor.Ev
