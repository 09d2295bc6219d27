/- The builders of functions. -/
import Derived.Test.YtkpadfebkaangaaGreatDoorCdM
import Derived.Test.YtkpadfebkaangaaGreatDoorEnc
namespace Go.Proofs.YtkpadfebkaangaaGreatDoor.Ev
noncomputable section
open Go Go.RowKit Go.Proofs.YtkpadfebkaangaaGreatDoor.Ms
set_option linter.all false
set_option maxRecDepth 100000
variable {a0 a1 a2 a3 x5 x6 x8 x9 x10 x11 x12 x13 x14 x15 x16 x17 x18 x19 x24:AV} {late:Bool} {Q:Ex->St->Prop} {hi:Hp} {vs:List AV} {n1 n2 n3 ns' nss:List Nat} {oN cls:Nat} {pc:Pc} {xo xs:SV}
def F0:Fns:=.mk T (fun _ _ _=>none)
theorem q4q {A:Nat->Int}:Env Tryz.prog A tys F0 where
 tys:=qsi
 mix:=(env (A:=A) (ps:=[]) (fun i m r h=>by simp at h)).mix
 fn:=(env (A:=A) (ps:=[]) (fun i m r h=>by simp at h)).fn
 ext:=fun f vs h v h' hx=>by cases hx
theorem qzu {f:FuncId} {h:Hp}:jc1 F0 f vs h=none:=rfl
theorem jbm {n:Int} {m:Nat} (hm:0<m):pick n (m:Int)=(pk n m:Int):=by
 have:=j8s n (m:Int) oa
 unfold pk
 omega
theorem jew {n:Int} {m:Nat} (hm:0<m):pk n m<m:=by
 have h1:=jy4 n (m:Int) oa
 have h2:=@jbm n m hm
 omega
theorem jfo {n:Int}:pick n 2=((pk n 2:Nat):Int):=jbm (m:=2) oa
theorem jfp {n:Int}:pick n 3=((pk n 3:Nat):Int):=jbm (m:=3) oa
theorem jfq {n:Int}:pick n 4=((pk n 4:Nat):Int):=jbm (m:=4) oa
theorem jfr {n:Int}:pick n 6=((pk n 6:Nat):Int):=jbm (m:=6) oa
theorem jfs {n:Int}:pick n 9=((pk n 9:Nat):Int):=jbm (m:=9) oa
theorem jbx {n:Int}:pick n 256=((pk n 256:Nat):Int):=jbm (m:=256) oa
theorem jao {n:Int}:pick n 1073741824=((pk n 1073741824:Nat):Int):=jbm (m:=1073741824) oa
theorem jal {n:Int}:pick n 1099511627776=((pk n 1099511627776:Nat):Int):=jbm (m:=1099511627776) oa
theorem j5p {n m:Int} (h1:-9223372036854775808<=n) (h2:n<=9223372036854775807) (hm:0<m) (hm2:m<=9223372036854775807) {h:Hp} {Q:AV->Hp->Prop} (hq:Q (vi (pick n m)) h):WC F0 8 [vi n,vi m] h Q:=by
 refine jaz qzu qfh rfl ?_
 unfold jv3
 have h3:=j8s n m hm
 have h4:=jy4 n m hm
 by_cases h0:n<0
 .simp (disch:=omega) only[ji9,ji8,f1x,f1m,j4v,jsm,jyx,j7v,qvw,jsr,jpd,jpb,jpa,j7n,jfz,qvv,jo8,jpc,j8f,qvu,jpe,j73,h0,decide_true,jyw,jo9,jss,↓reduceIte,j72,jad,j7y,qpy,j0q,jsp,jj8,jyr]
  have e:(-(n+1)).tmod m=pick n m:=by
   unfold pick
   rw[if_pos h0]
   exact f2i oa
  rw[if_neg oa,e,jj8 oa oa]
  simp only[go_sem]
  exact hq
 .simp (disch:=omega) only[ji9,ji8,f1x,f1m,j4v,jsm,jyx,j7v,qvw,jsr,jpd,jpb,jpa,j7n,jfz,qvv,jo8,jpc,j8f,qvu,jpe,j73,h0,decide_false,jyw,jo9,jss,f1c,↓reduceIte,qhr,jyr]
  have e:n.tmod m=pick n m:=by
   unfold pick
   rw[if_neg h0]
   exact f2i oa
  rw[if_neg oa,e,jj8 oa oa]
  simp only[go_sem]
  exact hq
theorem jy8 {n m:Int} (h1:-9223372036854775808<=n) (h2:n<=9223372036854775807) (hm:0<m) (hm2:m<=9223372036854775807):ji7 true F0 8 [vi n,vi m] (vi (pick n m)) :=
 j5p h1 h2 hm hm2 ⟨1,rfl⟩
def S1 (f:FuncId):Bool:=Nat.beq f 8
def F1:Fns:=PX S1 F0
theorem jv7 {n m:Int} {h:Hp} (h1:-9223372036854775808<=n) (h2:n<=9223372036854775807) (hm:0<m) (hm2:m<=9223372036854775807):jc1 F1 8 [vi n,vi m] h=some (vi (pick n m),h) :=
 jbg rfl rfl (jy8 h1 h2 hm hm2)
structure Base (F:Fns):Prop where
 T:∀ f,j4i F f=T f
 pk:∀ vs h,jc1 F 8 vs h=jc1 F1 8 vs h
 no:∀ f,f=48∨f=72∨f=51∨f=30∨f=49∨f=50->∀ vs h,jc1 F f vs h=none
theorem jam {F:Fns} {f:FuncId} {h h':Hp} {u:AV} {Q:AV->Hp->Prop} (hx:jc1 F f vs h=some (u,h')):WC F f vs h Q=Q u h':=by
 refine propext ⟨fun⟨n,v,h1,h2,h3⟩=>?_,qhs hx⟩
 cases F with
 | mk T X =>
 have h4:Option.rec (motive:=fun _=>R) _ (fun r=>some r) (X f vs h)=some (v,h1):=h2
 rw[show X f vs h=some (u,h') from hx] at h4
 cases h4
 exact h3
section
variable {F:Fns} (B:Base F)
include B
theorem jbe {n m:Int} {h:Hp} {Q:AV->Hp->Prop} (h1:-9223372036854775808<=n) (h2:n<=9223372036854775807) (hm:0<m) (hm2:m<=9223372036854775807):WC F 8 [vi n,vi m] h Q=Q (vi (pick n m)) h :=
 jam (by rw[B.pk];exact jv7 h1 h2 hm hm2)
def tt:Tys7:=⟨3,80,83,62,65,58,87⟩
theorem j01 {h:Hp} {p:Nat} {w:Ms} {ns:List Nat} (ok:Ok h) (r:MR tt h p w ns) (c:Nat) (hc:c<2) (hn:w.values.length<=100000) :
 WC F 48 [.s (.ptr p 0),vi c] h (fun v h'=>v=vi w.values.length/\∃ ns',MR tt h' p { w with values:=w.values++[c] } ns'/\Mv h h' ns ns'):=by
 refine jaz (B.no 48 se _ _) ((B.T _).trans qml) rfl ?_
 unfold j0v
 obtain⟨⟨a,b,k,n1,n2,n3,hg,hv,hb,hk,rfl⟩,hd,hlt⟩:=r
 have hp:=hlt p se
 simp(disch:=go_num) only[go_sem,hg]
 have hd1:n1.Nodup:=(f0m.1 (f0r.1 hd).2).1
 obtain⟨h2,e2,ok2,nx2,kp2,kt2,sl2⟩:=hv.app1 (bytes:=8) (row:=[si c]) (a:=c) (ms:=[]) ok (fun n hn=>hlt n (by simp[hn])) rfl ⟨rfl,rfl⟩ oa oa
 have e3:jmr (h.push (AB.arr [SV.int IntKind.i64 c] 3)) 3 1 8 (AV.s a) (AV.s (SV.slice h.next 0 1 1 true 1))=_:=e2
 have hp1:p∉n1:=fun hn=>(f0r.1 hd).1 (by simp[hn])
 have hp2:h2.get p=_:=(kp2 p hp.2 hp1).trans hg
 simp(disch:=go_num) only[go_sem,e3,hp2,jak ok2 hp.1,jad]
 have k2:∀ n∈n2++n3,h2.get n=h.get n:=fun n hn=>kp2 n (hlt n (f01 _ (f04 _ hn))).2 (fun h1=>(f0m.1 (f0r.1 hd).2).2.2 n h1 n hn rfl)
 have hlt':=fun n hn=>(hlt n hn).2
 have hf:h.next+1∉n1:=fun hn=>by have:=hlt' (h.next+1) (by simp[hn]);omega
 have u:=MR.upd (w':={ w with values:=w.values++[c] }) hd hlt ok.pos ok2 oa (sl2 (fun _ _ _ _ h=>h)) (hb.imp (fun n hn=>k2 n (by simp[hn])) (fun row a ms hm k=>k.keep (fun n hn=>k2 n (by simp[hm n hn])))) (hk.keep (fun n hn=>k2 n (by simp[hn])))
  (jcd (A:=[]) (N:=h.next) (f0r.1 hd).2 (fun n hn=>hlt' n (f01 _ hn)) (jcr hd1 .nil se hf se) (fun n hn=>by
   rcases f0f.1 hn with rfl | hn
   .exact .inr oa
   .exact .inl (f0j (by simpa using hn)))) (fun n hn=>by
   rcases f0e.1 hn with hn | hn
   .rcases f0f.1 hn with rfl | hn
    .exact ⟨.inr oa,oa⟩
    .have:=f0j (by simpa using hn)
     exact⟨.inl (by simp[this]),by have:=hlt' n (by simp[this]);omega⟩
   .exact ⟨.inl (f04 _ hn),by have:=hlt' n (f01 _ (f04 _ hn));omega⟩) (fun n h1 h3=>kp2 n h1 (fun h4=>h3 (by simp[h4])))
 exact⟨se,_,u⟩
end
section
variable {F:Fns} (B:Base F)
include B
theorem j02 {h:Hp} {p bn bf:Nat} {m need fixed:Nat×Nat} {a b k x y:SV} (ok:Ok h) (hg:h.get p=some (.arr [si m.1,si m.2,a,b,x,k,y] 87)) (hbn:h.get bn=some (.arr [si need.1,si need.2] 3)) (hbf:h.get bf=some (.arr [si fixed.1,si fixed.2] 3)) (hn:bn≠bf) (h1:1<=bn) (h2:1<=bf) (wish c:Nat) (hc:c<2)
 (q1:m.1<=100) (q2:m.2<=100) (q3:need.1<=100) (q4:need.2<=100) (q5:fixed.1<=100) (q6:fixed.2<=100) :
 WC F 72 [.s (.ptr p 0),vi wish,vi c,.s (.slice bn 0 2 2 true 1),.s (.slice bf 0 2 2 true 1)] h (fun v h'=>v=.tup [(false,[si (jbh m wish c need fixed).1]),(false,[si (jbh m wish c need fixed).2.1])]/\Ok h'/\h'.next=h.next /\
  h'.get bn=some (.arr [si (jbh m wish c need fixed).2.2.1.1,si (jbh m wish c need fixed).2.2.1.2] 3)/\h'.get bf=some (.arr [si (jbh m wish c need fixed).2.2.2.1,si (jbh m wish c need fixed).2.2.2.2] 3)/\(∀ n,n≠bn->n≠bf->h'.get n=h.get n)):=by
 refine jaz (B.no 72 se _ _) ((B.T _).trans qmm) rfl ?_
 unfold j0w
 obtain⟨m1,m2⟩:=m
 obtain⟨u1,u2⟩:=need
 obtain⟨f1,f2⟩:=fixed
 simp only at *
 have hn':¬ bf=bn:=fun e=>hn e.symm
 have hc':c=0∨c=1:=oa
 rcases hc' with rfl | rfl
 .by_cases w1:(wish:Int)=1
  .have w3:¬ (wish:Int)=3:=oa
   have v1:wish=1:=oa
   simp(disch:=go_num) only[go_sem,hg,hbn,hbf,w1,w3,jad,hn,hn']
   simp(disch:=go_num) [jbh,g2,s2,v1,ok,jas,jak,hn,hn',hbn,hbf,h1,h2]
   try (intro n e1 e2;simp[e1,e2])
  by_cases w3:(wish:Int)=3
  .have v3:wish=3:=oa
   simp(disch:=go_num) only[go_sem,hg,hbn,hbf,w1,w3,jad,hn,hn']
   simp(disch:=go_num) [jbh,g2,s2,v3,ok,jas,jak,hn,hn',hbn,hbf,h1,h2]
   try (intro n e1 e2;simp[e1,e2])
  by_cases w2:(m1:Int)<=u1+1
  .have v1:¬ wish=1:=oa
   have v3:¬ wish=3:=oa
   have v2:m1<=u1+1:=oa
   simp(disch:=go_num) only[go_sem,hg,hbn,hbf,w1,w3,w2,jad,hn,hn']
   simp(disch:=go_num) [jbh,g2,s2,v1,v3,v2,ok,jas,jak,hn,hn',hbn,hbf,h1,h2]
   try (intro n e1 e2;simp[e1,e2])
  have v1:¬ wish=1:=oa
  have v3:¬ wish=3:=oa
  have v2:¬ m1<=u1+1:=oa
  by_cases w4:(wish:Int)=4
  .have v4:wish=4:=oa
   simp(disch:=go_num) only[go_sem,hg,hbn,hbf,w1,w3,w2,w4,jad,hn,hn']
   simp(disch:=go_num) [jbh,g2,s2,v1,v3,v2,v4,ok,jas,jak,hn,hn',hbn,hbf,h1,h2]
   try (intro n e1 e2;simp[e1,e2])
  .have v4:¬ wish=4:=oa
   simp(disch:=go_num) only[go_sem,hg,hbn,hbf,w1,w3,w2,w4,jad,hn,hn']
   simp(disch:=go_num) [jbh,g2,s2,v1,v3,v2,v4,ok,jas,jak,hn,hn',hbn,hbf,h1,h2]
   try (intro n e1 e2;simp[e1,e2])
 .by_cases w1:(wish:Int)=1
  .have w3:¬ (wish:Int)=3:=oa
   have v1:wish=1:=oa
   simp(disch:=go_num) only[go_sem,hg,hbn,hbf,w1,w3,jad,hn,hn']
   simp(disch:=go_num) [jbh,g2,s2,v1,ok,jas,jak,hn,hn',hbn,hbf,h1,h2]
   try (intro n e1 e2;simp[e1,e2])
  by_cases w3:(wish:Int)=3
  .have v3:wish=3:=oa
   simp(disch:=go_num) only[go_sem,hg,hbn,hbf,w1,w3,jad,hn,hn']
   simp(disch:=go_num) [jbh,g2,s2,v3,ok,jas,jak,hn,hn',hbn,hbf,h1,h2]
   try (intro n e1 e2;simp[e1,e2])
  by_cases w2:(m2:Int)<=u2+1
  .have v1:¬ wish=1:=oa
   have v3:¬ wish=3:=oa
   have v2:m2<=u2+1:=oa
   simp(disch:=go_num) only[go_sem,hg,hbn,hbf,w1,w3,w2,jad,hn,hn']
   simp(disch:=go_num) [jbh,g2,s2,v1,v3,v2,ok,jas,jak,hn,hn',hbn,hbf,h1,h2]
   try (intro n e1 e2;simp[e1,e2])
  have v1:¬ wish=1:=oa
  have v3:¬ wish=3:=oa
  have v2:¬ m2<=u2+1:=oa
  by_cases w4:(wish:Int)=4
  .have v4:wish=4:=oa
   simp(disch:=go_num) only[go_sem,hg,hbn,hbf,w1,w3,w2,w4,jad,hn,hn']
   simp(disch:=go_num) [jbh,g2,s2,v1,v3,v2,v4,ok,jas,jak,hn,hn',hbn,hbf,h1,h2]
   try (intro n e1 e2;simp[e1,e2])
  .have v4:¬ wish=4:=oa
   simp(disch:=go_num) only[go_sem,hg,hbn,hbf,w1,w3,w2,w4,jad,hn,hn']
   simp(disch:=go_num) [jbh,g2,s2,v1,v3,v2,v4,ok,jas,jak,hn,hn',hbn,hbf,h1,h2]
   try (intro n e1 e2;simp[e1,e2])
end
structure Pin (p:Pc):Prop where
 kind:-9223372036854775808<=p.kind/\p.kind<=9223372036854775807
 op:-9223372036854775808<=p.op/\p.op<=9223372036854775807
 a:-9223372036854775808<=p.a/\p.a<=9223372036854775807
 b:-9223372036854775808<=p.b/\p.b<=9223372036854775807
 c:-9223372036854775808<=p.c/\p.c<=9223372036854775807
 limits:-9223372036854775808<=p.limits/\p.limits<=9223372036854775807
 flags:-9223372036854775808<=p.flags/\p.flags<=9223372036854775807
structure Wok (w:Ms) (N:Nat):Prop where
 m1:2<=w.m.1/\w.m.1<=10
 m2:2<=w.m.2/\w.m.2<=10
 vals:∀ c∈w.values,c<2
 known:∀ v∈w.known,v<w.values.length
 cur:w.cur<w.blocks.length
 nv:w.values.length<=N
 nb:w.blocks.length<=N
 nk:w.known.length<=N
 ni:∀ b∈w.blocks,b.instrs.length<=N/\b.edges.length<=N/\b.params.length<=N
 na:w.all<=N
structure Iv (h hi:Hp) (p:Nat) (w:Ms) (ns ns':List Nat) (pc:Pc) (s:Iw) (sp:List (Nat×Nat)) (xo xs:SV) (nso nss:List Nat):Prop where
 ok:Ok hi
 nx:h.next+5<=hi.next
 mr:MR tt hi p w ns'
 mv:Mv h hi ns ns'
 hp:hi.get h.next=some (.arr (jb8 pc) 90)
 hr:hi.get (h.next+1)=some (.arr [si 0,.nilSlice,.nilSlice] 62)
 hx:hi.get (h.next+2)=some (.arr [si (pk pc.op 256),xo,xs] 62)
 hn:hi.get (h.next+3)=some (.arr [si s.need.1,si s.need.2] 3)
 hf:hi.get (h.next+4)=some (.arr [si s.fixed.1,si s.fixed.2] 3)
 so:Sl hi 80 5 false EO xo s.ops nso
 ss:Sl hi 83 2 false ER xs sp nss
 lo:∀ n∈nso++nss,h.next+5<=n/\n<hi.next
 ln:∀ n∈ns',n<h.next∨h.next+5<=n
 nd:(ns'++(nso++nss)).Nodup
 b1:s.need.1<=10/\s.need.2<=10/\s.fixed.1<=s.need.1/\s.fixed.2<=s.need.2
 b2:s.limits<2 ^ 40
theorem j03 (m:Nat×Nat) (wish c:Nat) (need fixed:Nat×Nat) (hc:c<2) (h1:m.1<=10) (h2:m.2<=10) (b:need.1<=10/\need.2<=10/\fixed.1<=need.1/\fixed.2<=need.2):(jbh m wish c need fixed).2.2.1.1<=10/\(jbh m wish c need fixed).2.2.1.2<=10/\(jbh m wish c need fixed).2.2.2.1<=(jbh m wish c need fixed).2.2.1.1/\(jbh m wish c need fixed).2.2.2.2<=(jbh m wish c need fixed).2.2.1.2:=by
 have hc':c=0∨c=1:=oa
 unfold jbh
 rcases hc' with rfl | rfl
 .split
  .exact b
  .rename_i h3
   simp only[g2,if_true] at h3
   split<;>(simp[g2,s2];omega)
 .split
  .exact b
  .rename_i h3
   simp only[g2,if_false,Nat.one_ne_zero] at h3
   split<;>(simp[g2,s2];omega)
section
variable {F:Fns} (B:Base F)
include B
theorem qft {h:Hp} {p:Nat} {w:Ms} {ns:List Nat} (pin:Pin pc) {N:Nat} (wk:Wok w N) (hN:N<=100000) {s:Iw} {nso:List Nat} (I:Iv h hi p w ns ns' pc s [] xo .nilSlice nso []) {i:Nat} (hi2:i<pk pc.flags 1073741824 % 4) (hne:w.known≠[]) (hl:s.ops.length=i)
 {a0 a1 a2:AV} {Q:Ex->St->Prop} (hQ:∀ hj xo nso a0 a1 a2,Iv h hj p w ns ns' pc (j00 w pc (pk pc.flags 1073741824) i s) [] xo .nilSlice nso []->W F je4.loop (.mk [.s (.ptr p 0),.agg (jb8 pc),.s (.ptr (h.next+1) 0),.undef,.undef,.undef,.undef,.undef,.undef,.undef,.undef,.undef,.undef,.undef,.undef,.undef,.undef,.undef,.undef,.undef,.s (.ptr (h.next+2) 0),a0,.s (.slice (h.next+4) 0 2 2 true 1),.s (.slice (h.next+3) 0 2 2 true 1),vi ↑(j00 w pc (pk pc.flags 1073741824) i s).limits,a1,a2,vi ↑(pk pc.flags 1073741824),vi ↑(i+1),.s (.ptr h.next 0)] hj) Q) :
 W F je4.loop (.mk [.s (.ptr p 0),.agg (jb8 pc),.s (.ptr (h.next+1) 0),.undef,.undef,.undef,.undef,.undef,.undef,.undef,.undef,.undef,.undef,.undef,.undef,.undef,.undef,.undef,.undef,.undef,.s (.ptr (h.next+2) 0),a0,.s (.slice (h.next+4) 0 2 2 true 1),.s (.slice (h.next+3) 0 2 2 true 1),vi ↑s.limits,a1,a2,vi ↑(pk pc.flags 1073741824),vi ↑i,.s (.ptr h.next 0)] hi) Q:=by
 rw[jai]
 unfold je4 jly
 obtain⟨ok,nx,mr,mv,hp,hr,hx,hn,hf,so,ss,lo,ln,nd,b1,b2⟩:=I
 have mr0:=mr
 obtain⟨⟨a,b,k,n1,n2,n3,hg,hv,hb,hk,e0⟩,hd,hlt⟩:=mr
 have hp0:=hlt p (by simp[e0])
 have hpl:=ln p (by simp[e0])
 have hfl:pk pc.flags 1073741824<1073741824:=jew oa
 obtain⟨⟨q1,q2⟩,⟨q3,q4⟩,⟨q5,q6⟩,⟨q7,q8⟩,⟨q9,q10⟩,⟨q11,q12⟩,⟨q13,q14⟩⟩:=pin
 have hkl:0<w.known.length:=f1v.2 hne
 have hkn:=wk.nk
 obtain⟨v,hv1⟩:∃ v,w.known[pk (Int.tdiv pc.a (i+1)) w.known.length]?=some v:=by
  have:=jew (n:=Int.tdiv pc.a (i+1)) hkl
  exact⟨_,f0b this⟩
 have hvl:=wk.known v (f0c hv1)
 obtain⟨kb,krow,kms,ke1,ke2,ke3,⟨rfl,rfl⟩,ke5,ke6⟩:=hk.at hv1
 obtain⟨c,hc1⟩:∃ c,w.values[v]?=some c:=⟨_,f0b hvl⟩
 have hcl:=wk.vals c (f0c hc1)
 obtain⟨vb1,vrow,vms,ve1,ve2,ve3,⟨rfl,rfl⟩,ve5,ve6⟩:=hv.at hc1
 have hkb:=hlt kb (by simp[e0,ke6])
 have hvb:=hlt vb1 (by simp[e0,ve6])
 have htd:=j8r q5 q6 (b:=i+1) oa
 have kk:=hk.len
 obtain⟨fs,hfs⟩:∃ fs,pk pc.flags 1073741824 / 2 ^ (4+i)=fs:=⟨_,rfl⟩
 have hfs2:fs<1073741824:=by have:=f27 (pk pc.flags 1073741824) (2 ^ (4+i));omega
 have hli:(1+(s.limits:Int) % 4)=((1+s.limits % 4:Nat):Int):=oa
 simp(disch:=go_num) only[go_sem,jfo,jfp,jfq,jfr,jfs,jbx,jao,jal,jbe B,hp,hg,kk,jad,q1s,q1r,jb8,ke1,ke2,ve1,ve2,hv1,jj9,jet,jeu,jm6,jm7,and_false,false_and,if_false,jfe,jff,jdk,jdl,jdm,jdn,jjb,jbm,hfs,hli]
 obtain⟨hA,eA⟩:∃ hA,hA=(hi.push (AB.arr [SV.int IntKind.i64 0,SV.int IntKind.i64 0,SV.bool false,SV.int IntKind.i64 0,SV.int IntKind.i64 0] 80)).put hi.next (some (AB.arr [SV.int IntKind.i64 1,si ↑v,SV.bool (decide (fs % 2=1)),SV.int IntKind.i64 0,SV.int IntKind.i64 0] 80)):=⟨_,rfl⟩
 rw[←eA]
 have okA:Ok hA:=by rw[eA];exact jas (ja9 ok)
 have gA:∀ n,n<hi.next->hA.get n=hi.get n:=fun n hn=>by
  rw[eA,jak (ja9 ok) ok.pos,ja3 ok,if_neg oa,if_neg oa]
 have oA:hA.get hi.next=some (AB.arr [SV.int IntKind.i64 1,si ↑v,SV.bool (decide (fs % 2=1)),SV.int IntKind.i64 0,SV.int IntKind.i64 0] 80):=by
  rw[eA,jak (ja9 ok) ok.pos,if_pos rfl]
 have nA:hA.next=hi.next+1:=by rw[eA,Hp.next_put,Hp.next_push]
 clear eA
 refine WC.imp (j02 B (m:=w.m) (need:=s.need) (fixed:=s.fixed) (bn:=h.next+3) (bf:=h.next+4) (a:=a) (b:=b) (k:=k) (x:=si w.cur) (y:=si w.all) okA ((gA p hp0.2).trans hg) ((gA _ oa).trans hn) ((gA _ oa).trans hf) oa oa oa _ c hcl (by have:=wk.m1;omega) (by have:=wk.m2;omega) oa oa oa oa) ?_
 rintro _ h2 ⟨rfl,ok2,nx2,hn2,hf2,kp2⟩
 have o2:=(kp2 hi.next oa oa).trans oA
 have x2:=((kp2 (h.next+2) oa oa).trans (gA _ oa)).trans hx
 have hbd:=j03 w.m (1+s.limits % 4) c s.need s.fixed hcl (by have:=wk.m1;omega) (by have:=wk.m2;omega) b1
 obtain⟨lm,hlm⟩:∃ lm,jbh w.m (1+s.limits % 4) c s.need s.fixed=lm:=⟨_,rfl⟩
 rw[hlm] at hn2 hf2 hbd
 rw[hlm]
 simp(disch:=go_num) only[go_sem,o2,x2,jj9,jet,jeu,jm6,jm7,and_false,false_and,if_false,nx2,nA]
 obtain⟨h3,e3⟩:∃ h3,h3=(h2.put hi.next (some (AB.arr [SV.int IntKind.i64 1,si ↑v,SV.bool (decide (fs % 2=1)),si ↑lm.1,SV.int IntKind.i64 0] 80))).put hi.next (some (AB.arr [SV.int IntKind.i64 1,si ↑v,SV.bool (decide (fs % 2=1)),si ↑lm.1,si ↑lm.2.1] 80)):=⟨_,rfl⟩
 rw[←e3]
 have ok3:Ok h3:=by rw[e3];exact jas (jas ok2)
 have g3:∀ n,n≠hi.next->h3.get n=h2.get n:=fun n hn=>by
  rw[e3,jak (jas ok2) ok.pos,if_neg hn,jak ok2 ok.pos,if_neg hn]
 have n3:h3.next=hi.next+1:=by rw[e3,Hp.next_put,Hp.next_put,nx2,nA]
 clear e3
 have old:∀ n,n<hi.next->n≠h.next+3->n≠h.next+4->h3.get n=hi.get n:=fun n h1 h2' h3'=>(g3 n oa).trans ((kp2 n h2' h3').trans (gA n h1))
 have hnd:=f0m.1 nd
 have hlo:∀ n∈nso,h.next+5<=n/\n<hi.next:=fun n hn=>lo n (by simp[hn])
 have so3:=so.keep (h':=h3) (fun n hn=>old n (hlo n hn).2 (by have:=(hlo n hn).1;omega) (by have:=(hlo n hn).1;omega))
 obtain⟨h4,e4,ok4,nx4,kp4,kt4,sl4⟩:=so3.app1 (bytes:=40) (row:=jbc ⟨1,v,decide (fs % 2=1),lm.1,lm.2.1⟩) (a:=⟨1,v,decide (fs % 2=1),lm.1,lm.2.1⟩) (ms:=[]) ok3 (fun n hn=>by have:=hlo n hn;omega) rfl ⟨rfl,rfl⟩ oa oa
 have e4':jmr (h3.push (AB.arr [SV.int IntKind.i64 1,si ↑v,SV.bool (decide (fs % 2=1)),si ↑lm.1,si ↑lm.2.1] 80)) 80 5 40 (AV.s xo) (AV.s (SV.slice (hi.next+1) 0 1 1 true 5))=some (AV.s (SV.slice (hi.next+1+1) 0 (s.ops.length+1) (s.ops.length+1) false 5),h4):=by rw[n3] at e4;exact e4
 rw[n3] at sl4
 have x4:h4.get (h.next+2)=_:=(kp4 (h.next+2) oa (fun hn=>by have:=(hlo _ hn).1;omega)).trans ((g3 _ oa).trans x2)
 simp(disch:=go_num) only[go_sem,e4',x4,jj9,jet,jeu,jm6,jm7,and_false,false_and,if_false,jfe,jff,jdk,jdl,jdm,jdn,jjb,jbm,jad]
 have hU:j00 w pc (pk pc.flags 1073741824) i s=⟨s.ops++[⟨1,v,decide (fs % 2=1),lm.1,lm.2.1⟩],s.limits / 4,lm.2.2.1,lm.2.2.2⟩:=by
  unfold j00
  simp only[f0p,hv1,hc1,f1l,hlm,hfs]
 have hQ':=hQ (h4.put (h.next+2) (some (AB.arr [si ↑(pk pc.op 256),SV.slice (hi.next+2) 0 (s.ops.length+1) (s.ops.length+1) false 5,SV.nilSlice] 62))) (SV.slice (hi.next+2) 0 (s.ops.length+1) (s.ops.length+1) false 5) ((hi.next+2)::(nso.tail++[]))
 rw[hU] at hQ'
 refine hQ' _ _ _ ?_
 clear hQ' hQ
 have g5:∀ n,n≠h.next+2->(h4.put (h.next+2) (some (AB.arr [si ↑(pk pc.op 256),SV.slice (hi.next+2) 0 (s.ops.length+1) (s.ops.length+1) false 5,SV.nilSlice] 62))).get n=h4.get n:=fun n hn=>by
  rw[jak ok4 oa,if_neg hn]
 have x5:(h4.put (h.next+2) (some (AB.arr [si ↑(pk pc.op 256),SV.slice (hi.next+2) 0 (s.ops.length+1) (s.ops.length+1) false 5,SV.nilSlice] 62))).get (h.next+2)=some (AB.arr [si ↑(pk pc.op 256),SV.slice (hi.next+2) 0 (s.ops.length+1) (s.ops.length+1) false 5,SV.nilSlice] 62):=by
  rw[jak ok4 oa,if_pos rfl]
 have n5:(h4.put (h.next+2) (some (AB.arr [si ↑(pk pc.op 256),SV.slice (hi.next+2) 0 (s.ops.length+1) (s.ops.length+1) false 5,SV.nilSlice] 62))).next=hi.next+3:=by
  rw[Hp.next_put,nx4,n3]
 have ok5:Ok (h4.put (h.next+2) (some (AB.arr [si ↑(pk pc.op 256),SV.slice (hi.next+2) 0 (s.ops.length+1) (s.ops.length+1) false 5,SV.nilSlice] 62))):=jas ok4
 generalize h4.put (h.next+2) (some (AB.arr [si ↑(pk pc.op 256),SV.slice (hi.next+2) 0 (s.ops.length+1) (s.ops.length+1) false 5,SV.nilSlice] 62))=h5 at g5 x5 n5 ok5
 have k5:∀ n,n<hi.next->n≠h.next+2->n≠h.next+3->n≠h.next+4->n∉nso->h5.get n=hi.get n:=fun n h1 h2' h3' h4' h5'=>(g5 n h2').trans ((kp4 n oa h5').trans (old n h1 h3' h4'))
 have dj:∀ n∈ns',n∉nso:=fun n hn h1=>hnd.2.2 n hn n (by simp[h1]) rfl
 have nsl:∀ n,n<h.next+5->n∉nso:=fun n h1 h2'=>by have:=(hlo n h2').1;omega
 refine⟨ok5,oa,mr0.keep (fun n hn=>k5 n (hlt n hn).2 (by have:=ln n hn;omega) (by have:=ln n hn;omega) (by have:=ln n hn;omega) (dj n hn)) oa,⟨ok5,by have:=mv.nx;omega,mv.new,fun n h1 h2'=>(k5 n oa oa oa oa (nsl n oa)).trans (mv.keep n h1 h2')⟩,
  (k5 _ oa oa oa oa (nsl _ oa)).trans hp,(k5 _ oa oa oa oa (nsl _ oa)).trans hr,x5,
  (g5 _ oa).trans ((kp4 _ oa (nsl _ oa)).trans ((g3 _ oa).trans hn2)),(g5 _ oa).trans ((kp4 _ oa (nsl _ oa)).trans ((g3 _ oa).trans hf2)),
  ?_,.nil,fun n hn=>?_,ln,?_,hbd,by simp only;omega⟩
 .have:=(sl4 (E':=EO) (fun _ _ _ _ h=>h)).keep (h':=h5) (fun n hn=>g5 n (by
   rcases f0f.1 hn with rfl | hn
   .omega
   .have:=(hlo n (f0j (by simpa using hn))).1;omega))
  exact this
 .rw [f06] at hn
  rcases f0f.1 hn with rfl | hn
  .omega
  .have:=hlo n (f0j (by simpa using hn));omega
 .refine jcd (ns:=nso) (N:=hi.next) nd (fun n hn=>?_) (jcr (f0m.1 hnd.2.1).1 .nil se (fun h1=>by have:=(hlo _ h1).2;omega) se) (fun n hn=>?_)
  .rcases f0e.1 hn with hn | hn
   .exact (hlt n hn).2
   .exact (lo n hn).2
  .rcases f0f.1 hn with rfl | hn
   .exact .inr oa
   .exact .inl (f0j (by simpa using hn))
theorem jv8 {h:Hp} {p:Nat} {w:Ms} {ns:List Nat} (pin:Pin pc) {N:Nat} (wk:Wok w N) (hN:N<=100000):∀ (d:Nat) {hi:Hp} {ns':List Nat} {s:Iw} {xo:SV} {nso:List Nat} (_:Iv h hi p w ns ns' pc s [] xo .nilSlice nso []) {i:Nat} (_:s.ops.length=i) (_:if w.known=[] then d=0/\i=0 else i+d=pk pc.flags 1073741824 % 4)
 {a0 a1 a2:AV} (hQ:∀ hj ns' xo nso a0 a1 a2,Iv h hj p w ns ns' pc (jfg w pc (pk pc.flags 1073741824) d i s) [] xo .nilSlice nso []->(jfg w pc (pk pc.flags 1073741824) d i s).ops.length=i+d->Q (.exit 0) (.mk [.s (.ptr p 0),.agg (jb8 pc),.s (.ptr (h.next+1) 0),.undef,.undef,.undef,.undef,.undef,.undef,.undef,.undef,.undef,.undef,.undef,.undef,.undef,.undef,.undef,.undef,.undef,.s (.ptr (h.next+2) 0),a0,.s (.slice (h.next+4) 0 2 2 true 1),.s (.slice (h.next+3) 0 2 2 true 1),vi ↑(jfg w pc (pk pc.flags 1073741824) d i s).limits,a1,a2,vi ↑(pk pc.flags 1073741824),vi ↑(i+d),.s (.ptr h.next 0)] hj)),
 W F je4.loop (.mk [.s (.ptr p 0),.agg (jb8 pc),.s (.ptr (h.next+1) 0),.undef,.undef,.undef,.undef,.undef,.undef,.undef,.undef,.undef,.undef,.undef,.undef,.undef,.undef,.undef,.undef,.undef,.s (.ptr (h.next+2) 0),a0,.s (.slice (h.next+4) 0 2 2 true 1),.s (.slice (h.next+3) 0 2 2 true 1),vi ↑s.limits,a1,a2,vi ↑(pk pc.flags 1073741824),vi ↑i,.s (.ptr h.next 0)] hi) Q
 | 0,hi,ns',s,xo,nso,I,i,hl,hd,a0,a1,a2,hQ=>by
  rw[jai]
  unfold je4 jly
  have hfl:pk pc.flags 1073741824<1073741824:=jew oa
  obtain⟨⟨a,b,k,n1,n2,n3,hg,hv,hb,hk,e0⟩,hd',hlt⟩:=I.mr
  have kk:=hk.len
  have hkn:=wk.nk
  by_cases hkn0:w.known=[]
  .rw [if_pos hkn0] at hd
   obtain⟨_,rfl⟩:=hd
   rw[hkn0] at kk
   by_cases hc:(0:Int)<(pk pc.flags 1073741824:Int) % 4
   .simp (disch:=go_num) only[go_sem,hc,hg,kk,f00,jj9,jet,jeu,jm6,jm7,and_false,false_and,if_false,f0s]
    exact hQ hi ns' xo nso _ _ _ I hl
   .simp (disch:=go_num) only[go_sem,hc,hg,kk,f00,jj9,jet,jeu,jm6,jm7,and_false,false_and,if_false,f0s]
    exact hQ hi ns' xo nso _ _ _ I hl
  .rw [if_neg hkn0] at hd
   have hc:¬ (i:Int)<(pk pc.flags 1073741824:Int) % 4:=oa
   simp(disch:=go_num) only[go_sem,hc,hg,kk,jj9,jet,jeu,jm6,jm7,and_false,false_and,if_false]
   exact hQ hi ns' xo nso _ _ _ I hl
 | d+1,hi,ns',s,xo,nso,I,i,hl,hd,a0,a1,a2,hQ=>by
  by_cases hkn0:w.known=[]
  .rw [if_pos hkn0] at hd;omega
  .rw [if_neg hkn0] at hd
   refine qft B pin wk hN I oa hkn0 hl (fun hj xo nso b0 b1 b2 I'=>?_)
   have hl':(j00 w pc (pk pc.flags 1073741824) i s).ops.length=i+1:=by unfold j00;simp[hl]
   refine jv8 pin wk hN d I' hl' (by rw[if_neg hkn0];omega) (fun hj ns' xo nso c0 c1 c2 I'' hl''=>?_)
   have e1:jfg w pc (pk pc.flags 1073741824) (d+1) i s=jfg w pc (pk pc.flags 1073741824) d (i+1) (j00 w pc (pk pc.flags 1073741824) i s):=rfl
   have hQ':=hQ hj ns' xo nso c0 c1 c2
   rw[e1] at hQ'
   have e2:i+1+d=i+(d+1):=oa
   rw[e2] at hl'' ⊢
   exact hQ' I'' hl''
end
theorem Iv.upd {h hj:Hp} {p:Nat} {w w':Ms} {ns ns2:List Nat} {s:Iw} {sp:List (Nat×Nat)} {nso:List Nat} (I:Iv h hi p w ns ns' pc s sp xo xs nso nss) {need fixed:Nat×Nat} {lim:Nat} (okj:Ok hj) (mn:hi.next<=hj.next) (new:∀ n∈ns2,n∈ns'∨hi.next<=n) (mr:MR tt hj p w' ns2) (hn:hj.get (h.next+3)=some (.arr [si need.1,si need.2] 3)) (hf:hj.get (h.next+4)=some (.arr [si fixed.1,si fixed.2] 3))
 (kp:∀ n,n<hi.next->n∉ns'->n≠h.next+3->n≠h.next+4->(n<h.next∨n<=h.next+2∨n∈nso++nss)->hj.get n=hi.get n) (b1:need.1<=10/\need.2<=10/\fixed.1<=need.1/\fixed.2<=need.2) (b2:lim<2 ^ 40):Iv h hj p w' ns ns2 pc ⟨s.ops,lim,need,fixed⟩ sp xo xs nso nss:=by
 obtain⟨ok,nx,mr0,mv0,hp,hr,hx,hn0,hf0,so,ss,lo,ln,nd,_,_⟩:=I
 have hnd:=f0m.1 nd
 have dj:∀ n∈nso++nss,n∉ns':=fun n hn h1=>hnd.2.2 n h1 n hn rfl
 have e:∀ n,h.next<=n->n<=h.next+2->hj.get n=hi.get n:=fun n h1 h2=>kp n oa (fun h3=>by have:=ln n h3;omega) oa oa (.inr (.inl h2))
 have e2:∀ n∈nso++nss,hj.get n=hi.get n:=fun n hn=>kp n (lo n hn).2 (dj n hn) (by have:=(lo n hn).1;omega) (by have:=(lo n hn).1;omega) (.inr (.inr hn))
 refine⟨okj,oa,mr,⟨okj,by have:=mv0.nx;omega,fun n h1=>?_,fun n h1 h2=>?_⟩,(e _ oa oa).trans hp,(e _ oa oa).trans hr,(e _ oa oa).trans hx,hn,hf,so.keep (fun n hn=>e2 n (by simp[hn])),ss.keep (fun n hn=>e2 n (by simp[hn])),fun n h1=>⟨(lo n h1).1,by have:=(lo n h1).2;omega⟩,fun n h1=>?_,?_,b1,b2⟩
 .rcases new n h1 with h2 | h2
  .exact mv0.new n h2
  .exact .inr oa
 .have h3:n∉ns':=fun h3=>by
   rcases mv0.new n h3 with h4 | h4
   .exact h2 h4
   .omega
  exact(kp n oa h3 oa oa (.inl h1)).trans (mv0.keep n h1 h2)
 .rcases new n h1 with h2 | h2
  .exact ln n h2
  .exact .inr oa
 .rw [f0m]
  refine⟨mr.nodup,hnd.2.1,fun a ha b hb e=>?_⟩
  subst e
  rcases new a ha with h2 | h2
  .exact dj a hb h2
  .have:=(lo a hb).2;omega
theorem Iv.app {h:Hp} {p:Nat} {w:Ms} {ns:List Nat} {s:Iw} {sp:List (Nat×Nat)} {nso:List Nat} (I:Iv h hi p w ns ns' pc s sp xo xs nso nss) (hl:s.ops.length<=100) (o:Ms.Opd) :
 ∃ h4 nso',jmr (hi.push (.arr (jbc o) 80)) 80 5 40 (.s xo) (.s (.slice hi.next 0 1 1 true 5))=some (.s (.slice (hi.next+1) 0 (s.ops.length+1) (s.ops.length+1) false 5),h4)/\Ok h4/\h4.get (h.next+2)=some (.arr [si (pk pc.op 256),xo,xs] 62) /\
  Iv h (h4.put (h.next+2) (some (.arr [si (pk pc.op 256),.slice (hi.next+1) 0 (s.ops.length+1) (s.ops.length+1) false 5,xs] 62))) p w ns ns' pc { s with ops:=s.ops++[o] } sp (.slice (hi.next+1) 0 (s.ops.length+1) (s.ops.length+1) false 5) xs nso' nss:=by
 obtain⟨ok,nx,mr0,mv0,hp,hr,hx,hn0,hf0,so,ss,lo,ln,nd,b1,b2⟩:=I
 have hlo:∀ n∈nso,h.next+5<=n/\n<hi.next:=fun n hn=>lo n (by simp[hn])
 have hnd:=f0m.1 nd
 have hnd2:=f0m.1 hnd.2.1
 obtain⟨h4,e4,ok4,nx4,kp4,kt4,sl4⟩:=so.app1 (bytes:=40) (row:=jbc o) (a:=o) (ms:=[]) ok (fun n hn=>by have:=hlo n hn;omega) rfl ⟨rfl,rfl⟩ oa oa
 have nsl:∀ n,n<h.next+5->n∉nso:=fun n h1 h2'=>by have:=(hlo n h2').1;omega
 refine⟨h4,(hi.next+1)::(nso.tail++[]),e4,ok4,(kp4 _ oa (nsl _ oa)).trans hx,?_⟩
 have g5:∀ n,n≠h.next+2->(h4.put (h.next+2) (some (AB.arr [si ↑(pk pc.op 256),SV.slice (hi.next+1) 0 (s.ops.length+1) (s.ops.length+1) false 5,xs] 62))).get n=h4.get n:=fun n hn=>by
  rw[jak ok4 oa,if_neg hn]
 have x5:(h4.put (h.next+2) (some (AB.arr [si ↑(pk pc.op 256),SV.slice (hi.next+1) 0 (s.ops.length+1) (s.ops.length+1) false 5,xs] 62))).get (h.next+2)=some (AB.arr [si ↑(pk pc.op 256),SV.slice (hi.next+1) 0 (s.ops.length+1) (s.ops.length+1) false 5,xs] 62):=by
  rw[jak ok4 oa,if_pos rfl]
 have n5:(h4.put (h.next+2) (some (AB.arr [si ↑(pk pc.op 256),SV.slice (hi.next+1) 0 (s.ops.length+1) (s.ops.length+1) false 5,xs] 62))).next=hi.next+2:=by
  rw[Hp.next_put,nx4]
 have ok5:Ok (h4.put (h.next+2) (some (AB.arr [si ↑(pk pc.op 256),SV.slice (hi.next+1) 0 (s.ops.length+1) (s.ops.length+1) false 5,xs] 62))):=jas ok4
 generalize h4.put (h.next+2) (some (AB.arr [si ↑(pk pc.op 256),SV.slice (hi.next+1) 0 (s.ops.length+1) (s.ops.length+1) false 5,xs] 62))=h5 at g5 x5 n5 ok5
 have k5:∀ n,n<hi.next->n≠h.next+2->n∉nso->h5.get n=hi.get n:=fun n h1 h2' h5'=>(g5 n h2').trans (kp4 n h1 h5')
 have dj:∀ n∈ns',n∉nso:=fun n hn h1=>hnd.2.2 n hn n (by simp[h1]) rfl
 refine⟨ok5,oa,mr0.keep (fun n hn=>k5 n (mr0.lt n hn).2 (by have:=ln n hn;omega) (dj n hn)) oa,⟨ok5,by have:=mv0.nx;omega,mv0.new,fun n h1 h2'=>(k5 n oa oa (nsl n oa)).trans (mv0.keep n h1 h2')⟩,
  (k5 _ oa oa (nsl _ oa)).trans hp,(k5 _ oa oa (nsl _ oa)).trans hr,x5,(k5 _ oa oa (nsl _ oa)).trans hn0,(k5 _ oa oa (nsl _ oa)).trans hf0,
  ?_,ss.keep (fun n hn=>k5 n (lo n (by simp[hn])).2 (by have:=(lo n (by simp[hn])).1;omega) (fun h1=>hnd2.2.2 n h1 n hn rfl)),fun n hn=>?_,ln,?_,b1,b2⟩
 .exact (sl4 (E':=EO) (fun _ _ _ _ h=>h)).keep (h':=h5) (fun n hn=>g5 n (by
   rcases f0f.1 hn with rfl | hn
   .omega
   .have:=(hlo n (f0j (by simpa using hn))).1;omega))
 .rcases f0e.1 hn with hn | hn
  .rcases f0f.1 hn with rfl | hn
   .omega
   .have:=hlo n (f0j (by simpa using hn));omega
  .have:=lo n (by simp[hn]);omega
 .refine jcd (ns:=nso) (B:=nss) (N:=hi.next) nd (fun n hn=>?_) (jcr hnd2.1 .nil se (fun h1=>by have:=(hlo _ h1).2;omega) se) (fun n hn=>?_)
  .rcases f0e.1 hn with hn | hn
   .exact (mr0.lt n hn).2
   .exact (lo n hn).2
  .rcases f0f.1 hn with rfl | hn
   .exact .inr oa
   .exact .inl (f0j (by simpa using hn))
section
variable {F:Fns} (B:Base F)
include B
abbrev frD (h:Hp) (p:Nat) (pc:Pc) (x9 x10 x11 x12 x13 x14 x15 x16 x17 x18 x19 a0 x24 a1 a2 a3:AV):List AV:=[.s (.ptr p 0),.agg (jb8 pc),.s (.ptr (h.next+1) 0),.undef,.undef,.undef,.undef,.undef,.undef,x9,x10,x11,x12,x13,x14,x15,x16,x17,x18,x19,.s (.ptr (h.next+2) 0),a0,.s (.slice (h.next+4) 0 2 2 true 1),.s (.slice (h.next+3) 0 2 2 true 1),x24,a1,a2,vi ↑(pk pc.flags 1073741824),a3,.s (.ptr h.next 0)]
theorem jv9 {h:Hp} {p:Nat} {w:Ms} {ns:List Nat} {N:Nat} (wk:Wok w N) (hN:N<=100000) {s:Iw} {nso:List Nat} (I:Iv h hi p w ns ns' pc s [] xo .nilSlice nso []) (hl:s.ops.length<=10) {lim n:Nat} (hc:cls<2)
 (ho:hi.get oN=some (.arr [si 2,si 0,.bool late,si lim,si n] 80)) (hoN:h.next+5<=oN/\oN<hi.next/\oN∉nso/\oN∉ns') {x9 x11 x13 x14 x15 x16 x17 x18 x19 a0 x24 a1 a2 a3:AV} {Q:Ex->St->Prop}
 (hQ:∀ hj ns'' xo' nso',Iv h hj p { w with values:=w.values++[cls] } ns ns'' pc { s with ops:=s.ops++[⟨2,w.values.length,late,lim,n⟩] } [] xo' .nilSlice nso' []->Q .normal (.mk (frD h p pc x9 (.s (.ptr oN 0)) x11 (vi cls) x13 x14 x15 x16 x17 x18 x19 a0 x24 a1 a2 a3) hj)) :
 W F jlz (.mk (frD h p pc x9 (.s (.ptr oN 0)) x11 (vi cls) x13 x14 x15 x16 x17 x18 x19 a0 x24 a1 a2 a3) hi) Q:=by
 unfold jlz
 obtain⟨ok,nx,mr,mv,hp,hr,hx,hn,hf,so,ss,lo,ln,nd,b1,b2⟩:=I
 simp(disch:=go_num) only[go_sem,jb8]
 refine WC.imp (j01 B ok mr cls hc (by have:=wk.nv;omega)) ?_
 rintro _ h2 ⟨rfl,ns2,mr2,mv2⟩
 have I:Iv h hi p w ns ns' pc s [] xo .nilSlice nso []:=⟨ok,nx,mr,mv,hp,hr,hx,hn,hf,so,ss,lo,ln,nd,b1,b2⟩
 have k2:=mv2.keep
 have hnn:=mv2.nx
 have o2:=(k2 oN hoN.2.1 hoN.2.2.2).trans ho
 have ok2:=mv2.ok
 have x2:h2.get (h.next+2)=_:=(k2 _ oa (fun h1=>by have:=ln _ h1;omega)).trans hx
 simp(disch:=go_num) only[go_sem,o2,x2,jj9,jet,jeu,jm6,jm7,and_false,false_and,if_false]
 have I2:=I.upd (s:=s) (need:=s.need) (fixed:=s.fixed) (lim:=s.limits) ok2 hnn mv2.new mr2 ((k2 _ oa (fun h1=>by have:=ln _ h1;omega)).trans hn) ((k2 _ oa (fun h1=>by have:=ln _ h1;omega)).trans hf) (fun n h1 h3 _ _ _=>k2 n h1 h3) b1 b2
 have n2o:oN∉ns2:=fun h1=>by
  rcases mv2.new oN h1 with h3 | h3
  .exact hoN.2.2.2 h3
  .omega
 obtain⟨h3,e3⟩:∃ h3,h3=h2.put oN (some (AB.arr [SV.int IntKind.i64 2,si ↑w.values.length,.bool late,si lim,si n] 80)):=⟨_,rfl⟩
 have ok3:Ok h3:=by rw[e3];exact jas ok2
 have g3:∀ n,n≠oN->h3.get n=h2.get n:=fun n hn=>by rw[e3,jak ok2 oa,if_neg hn]
 have nx3:h3.next=h2.next:=by rw[e3,Hp.next_put]
 have I3:=I2.upd (hj:=h3) (w':={ w with values:=w.values++[cls] }) (ns2:=ns2) (need:=s.need) (fixed:=s.fixed) (lim:=s.limits) ok3 oa (fun n hn=>.inl hn) (mr2.keep (fun n hn=>g3 n (fun e=>n2o (e▸hn))) oa) ((g3 _ oa).trans I2.hn) ((g3 _ oa).trans I2.hf) (fun n h1 h3' h4 h5 h6=>g3 n (fun e=>by
  subst e
  rcases h6 with h6 | h6 | h6
  .omega
  .omega
  .exact hoN.2.2.1 (by simpa using h6))) b1 b2
 rw[←e3]
 obtain⟨h4,nso',e4,ok4,x4,I4⟩:=I3.app (by simpa using by omega) ⟨2,w.values.length,late,lim,n⟩
 have e4':jmr (h3.push (AB.arr [SV.int IntKind.i64 2,si ↑w.values.length,.bool late,si lim,si n] 80)) 80 5 40 (AV.s xo) (AV.s (SV.slice h2.next 0 1 1 true 5))=some (AV.s (SV.slice (h2.next+1) 0 (s.ops.length+1) (s.ops.length+1) false 5),h4):=by rw[nx3] at e4;exact e4
 simp(disch:=go_num) only[go_sem,e4',x4,jj9,jet,jeu,jm6,jm7,and_false,false_and,if_false]
 rw[nx3] at I4
 exact hQ _ _ _ _ I4
theorem j5q {h:Hp} {p:Nat} {w:Ms} {ns:List Nat} {N:Nat} (wk:Wok w N) (hN:N<=100000) {s:Iw} {nso:List Nat} (I:Iv h hi p w ns ns' pc s [] xo .nilSlice nso []) (hl:s.ops.length<=10) {wish:Nat} (hc:cls<2)
 (ho:hi.get oN=some (.arr [si 2,si 0,.bool late,si 0,si 0] 80)) (hoN:h.next+5<=oN/\oN<hi.next/\oN∉nso/\oN∉ns') {x9 x11 x13 x14 x15 x16 x18 x19 a0 x24 a1 a2 a3:AV} {Q:Ex->St->Prop}
 (hQ:∀ hj ns'' xo' nso' x9,Iv h hj p { w with values:=w.values++[cls] } ns ns'' pc ⟨s.ops++[⟨2,w.values.length,late,(jbh w.m wish cls s.need s.fixed).1,(jbh w.m wish cls s.need s.fixed).2.1⟩],s.limits,(jbh w.m wish cls s.need s.fixed).2.2.1,(jbh w.m wish cls s.need s.fixed).2.2.2⟩ [] xo' .nilSlice nso' []->Q .normal (.mk (frD h p pc x9 (.s (.ptr oN 0)) x11 (vi cls) x13 x14 x15 x16 (vi wish) x18 x19 a0 x24 a1 a2 a3) hj)) :
 W F jd9 (.mk (frD h p pc x9 (.s (.ptr oN 0)) x11 (vi cls) x13 x14 x15 x16 (vi wish) x18 x19 a0 x24 a1 a2 a3) hi) Q:=by
 unfold jd9
 have I0:=I
 obtain⟨ok,nx,mr,mv,hp,hr,hx,hn,hf,so,ss,lo,ln,nd,b1,b2⟩:=I
 obtain⟨⟨a,b,k,n1,n2,n3,hg,hv,hb,hk,e0⟩,hd',hlt⟩:=id mr
 have hp0:=hlt p (by simp[e0])
 simp(disch:=go_num) only[go_sem,ho,jb8]
 refine WC.imp (j02 B (m:=w.m) (need:=s.need) (fixed:=s.fixed) (bn:=h.next+3) (bf:=h.next+4) (a:=a) (b:=b) (k:=k) (x:=si w.cur) (y:=si w.all) ok hg hn hf oa oa oa _ cls hc (by have:=wk.m1;omega) (by have:=wk.m2;omega) oa oa oa oa) ?_
 rintro _ h2 ⟨rfl,ok2,nx2,hn2,hf2,kp2⟩
 have hbd:=j03 w.m wish cls s.need s.fixed hc (by have:=wk.m1;omega) (by have:=wk.m2;omega) b1
 obtain⟨lm,hlm⟩:∃ lm,jbh w.m wish cls s.need s.fixed=lm:=⟨_,rfl⟩
 simp only[hlm] at hn2 hf2 hbd hQ ⊢
 have o2:=(kp2 oN oa oa).trans ho
 simp(disch:=go_num) only[go_sem,o2,jj9,jet,jeu,jm6,jm7,and_false,false_and,if_false]
 have I2:=I0.upd (hj:=h2) (w':=w) (ns2:=ns') (need:=lm.2.2.1) (fixed:=lm.2.2.2) (lim:=s.limits) ok2 oa (fun n hn=>.inl hn) (mr.keep (fun n hn=>kp2 n (by have:=ln n hn;omega) (by have:=ln n hn;omega)) oa) hn2 hf2 (fun n _ _ h4 h5 _=>kp2 n h4 h5) hbd b2
 obtain⟨h3,e3⟩:∃ h3,h3=(h2.put oN (some (AB.arr [SV.int IntKind.i64 2,SV.int IntKind.i64 0,.bool late,si ↑lm.1,SV.int IntKind.i64 0] 80))).put oN (some (AB.arr [SV.int IntKind.i64 2,SV.int IntKind.i64 0,.bool late,si ↑lm.1,si ↑lm.2.1] 80)):=⟨_,rfl⟩
 rw[←e3]
 have ok3:Ok h3:=by rw[e3];exact jas (jas ok2)
 have g3:∀ n,n≠oN->h3.get n=h2.get n:=fun n hn=>by
  rw[e3,jak (jas ok2) oa,if_neg hn,jak ok2 oa,if_neg hn]
 have o3:h3.get oN=some (AB.arr [SV.int IntKind.i64 2,SV.int IntKind.i64 0,.bool late,si ↑lm.1,si ↑lm.2.1] 80):=by rw[e3,jak (jas ok2) oa,if_pos rfl]
 have nx3:h3.next=hi.next:=by rw[e3,Hp.next_put,Hp.next_put,nx2]
 have I3:=I2.upd (hj:=h3) (w':=w) (ns2:=ns') (need:=lm.2.2.1) (fixed:=lm.2.2.2) (lim:=s.limits) ok3 oa (fun n hn=>.inl hn) (I2.mr.keep (fun n hn=>g3 n (fun e=>hoN.2.2.2 (e▸hn))) oa) ((g3 _ oa).trans I2.hn) ((g3 _ oa).trans I2.hf) (fun n h1 h3' h4 h5 h6=>g3 n (fun e=>by
  subst e
  rcases h6 with h6 | h6 | h6
  .omega
  .omega
  .exact hoN.2.2.1 (by simpa using h6))) hbd b2
 exact jv9 B wk hN I3 hl hc o3 ⟨hoN.1,oa,hoN.2.2⟩ (fun hj ns'' xo' nso' I4=>hQ hj ns'' xo' nso' _ I4)
theorem j5r {h:Hp} {p:Nat} {w:Ms} {ns:List Nat} {N:Nat} (wk:Wok w N) (hN:N<=100000) {s:Iw} {nso:List Nat} (I:Iv h hi p w ns ns' pc s [] xo .nilSlice nso []) (hl:s.ops.length<=10) {n:Nat} (hc:cls<2)
 (ho:hi.get oN=some (.arr [si 2,si 0,.bool true,si 5,si n] 80)) (hoN:h.next+5<=oN/\oN<hi.next/\oN∉nso/\oN∉ns') {x9 x11 x13 x14 x15 x16 x17 x18 x19 a0 x24 a1 a2 a3:AV} {Q:Ex->St->Prop}
 (hQ:∀ hj ns'' xo' nso' x9,Iv h hj p { w with values:=w.values++[cls] } ns ns'' pc { s with ops:=s.ops++[⟨2,w.values.length,true,5,n⟩] } [] xo' .nilSlice nso' []->Q .normal (.mk (frD h p pc x9 (.s (.ptr oN 0)) x11 (vi cls) x13 x14 x15 x16 x17 x18 x19 a0 x24 a1 a2 a3) hj)) :
 W F jd9 (.mk (frD h p pc x9 (.s (.ptr oN 0)) x11 (vi cls) x13 x14 x15 x16 x17 x18 x19 a0 x24 a1 a2 a3) hi) Q:=by
 unfold jd9
 simp(disch:=go_num) only[go_sem,ho,jb8]
 have o3:hi.get oN=some (.arr [si 2,si 0,.bool true,si (5:Nat),si n] 80):=ho
 exact jv9 B wk hN I hl hc o3 hoN (fun hj ns'' xo' nso' I4=>hQ hj ns'' xo' nso' _ I4)
end
set_option maxHeartbeats 2000000
def rz (r uses:Nat):Int:=if r=uses then -1 else r
theorem qso {p:Nat×Nat} {c:Nat} (hc:c<2):jbp 1 (jb9 (c*1) [si p.1,si p.2])=some [si (g2 p c)]:=by
 have:c=0∨c=1:=oa
 rcases this with rfl | rfl<;>rfl
theorem qzv {p:Nat×Nat} {c z:Nat} (hc:c<2):jbo (c*1) [si z] [si p.1,si p.2]=some [si (s2 p c z).1,si (s2 p c z).2]:=by
 have:c=0∨c=1:=oa
 rcases this with rfl | rfl<;>rfl
theorem qmy {p:Nat×Nat} {c:Nat} {r:List SV} (hc:c<2):jbp 1 (jb9 (c*1) (si p.1::si p.2::r))=some [si (g2 p c)]:=by
 have:c=0∨c=1:=oa
 rcases this with rfl | rfl<;>rfl
section
variable {F:Fns} (B:Base F)
include B
theorem qfu {h:Hp} {p:Nat} {w:Ms} {ns:List Nat} (pin:Pin pc) {N:Nat} (wk:Wok w N) (hN:N<=100000) {s:Iw} {nso:List Nat} (I:Iv h hi p w ns ns' pc s [] xo .nilSlice nso []) {i uses rd:Nat} (hi2:i<1+pk pc.flags 1073741824 / 2 ^ 8 % 2) (hl:s.ops.length=uses+i) (hu:uses<=3) (hops:∀ o∈s.ops,o.value<w.values.length) (hrd:rd<=uses)
 {x9 x10 x11 x12 x14 x16 x17 x18 a0 a1 a2 a3:AV} {Q:Ex->St->Prop} (hQ:∀ hj ns' xo nso x9 x10 x11 x12 x14 x16 x17 x18,Iv h hj p (jfm pc (pk pc.flags 1073741824) uses i (s,rd,w)).2.2 ns ns' pc (jfm pc (pk pc.flags 1073741824) uses i (s,rd,w)).1 [] xo .nilSlice nso []->W F jds.loop (.mk (frD h p pc x9 x10 x11 x12 (vi (rz (jfm pc (pk pc.flags 1073741824) uses i (s,rd,w)).2.1 uses)) x14 (vi uses) x16 x17 x18 (vi ↑(i+1)) a0 (vi ↑(jfm pc (pk pc.flags 1073741824) uses i (s,rd,w)).1.limits) a1 a2 a3) hj) Q) :
 W F jds.loop (.mk (frD h p pc x9 x10 x11 x12 (vi (rz rd uses)) x14 (vi uses) x16 x17 x18 (vi ↑i) a0 (vi ↑s.limits) a1 a2 a3) hi) Q:=by
 rw[jai]
 unfold jds jrk
 have I0:=I
 obtain⟨ok,nx,mr,mv,hp,hr,hx,hn,hf,so,ss,lo,ln,nd,b1,b2⟩:=I
 obtain⟨⟨a,b,k,n1,n2,n3,hg,hv,hb,hk,e0⟩,hd',hlt⟩:=id mr
 have hp0:=hlt p (by simp[e0])
 have hpl:=ln p (by simp[e0])
 have hfl:pk pc.flags 1073741824<1073741824:=jew oa
 obtain⟨⟨q1,q2⟩,⟨q3,q4⟩,⟨q5,q6⟩,⟨q7,q8⟩,⟨q9,q10⟩,⟨q11,q12⟩,⟨q13,q14⟩⟩:=pin
 have hf8:pk pc.flags 1073741824 / 2 ^ 8<1073741824:=by have:=f27 (pk pc.flags 1073741824) (2 ^ 8);omega
 have hcnd:(i:Int)<1+((pk pc.flags 1073741824 / 2 ^ 8:Nat):Int) % 2:=oa
 obtain⟨fs,hfs⟩:∃ fs,pk pc.flags 1073741824 / 2 ^ (9+i)=fs:=⟨_,rfl⟩
 have hfs2:fs<1073741824:=by have:=f27 (pk pc.flags 1073741824) (2 ^ (9+i));omega
 have hi3:i<=1:=oa
 obtain⟨ci,hci⟩:∃ ci,pc.c / 2 ^ i=ci:=⟨_,rfl⟩
 have hci2:-9223372036854775808<=ci/\ci<=9223372036854775807:=by
  have:i=0∨i=1:=oa
  rcases this with rfl | rfl
  .rw [←hci];simp;omega
  .rw [←hci];simp;omega
 obtain⟨cls,hcls⟩:∃ cls,jgk pc i=cls:=⟨_,rfl⟩
 have hcl:ci % 2=(cls:Int):=by
  rw[←hcls,←hci];unfold jgk
  have:=Int.emod_nonneg (pc.c / 2 ^ i) (by omega:(2:Int)≠0)
  omega
 have hc2:cls<2:=oa
 have hwi:(1+(s.limits:Int) % 5)=((1+s.limits % 5:Nat):Int):=oa
 obtain⟨wi,hwi2⟩:∃ wi,1+s.limits % 5=wi:=⟨_,rfl⟩
 have hu1:((uses:Int)+1)=((uses+1:Nat):Int):=oa
 obtain⟨kn,hkn⟩:∃ kn,pk pc.b (uses+1)=kn:=⟨_,rfl⟩
 have hkl:kn<uses+1:=by rw[←hkn];exact jew oa
 obtain⟨hA,eA⟩:∃ hA,hA=(hi.push (AB.arr [SV.int IntKind.i64 0,SV.int IntKind.i64 0,SV.bool false,SV.int IntKind.i64 0,SV.int IntKind.i64 0] 80)).put hi.next (some (AB.arr [SV.int IntKind.i64 2,SV.int IntKind.i64 0,SV.bool (decide (fs % 2=1)),SV.int IntKind.i64 0,SV.int IntKind.i64 0] 80)):=⟨_,rfl⟩
 have okA:Ok hA:=by rw[eA];exact jas (ja9 ok)
 have gA:∀ n,n<hi.next->hA.get n=hi.get n:=fun n hn=>by
  rw[eA,jak (ja9 ok) ok.pos,ja3 ok,if_neg oa,if_neg oa]
 have oA:hA.get hi.next=some (AB.arr [si (2:Nat),si (0:Nat),SV.bool (decide (fs % 2=1)),si (0:Nat),si (0:Nat)] 80):=by
  rw[eA,jak (ja9 ok) ok.pos,if_pos rfl];rfl
 have nA:hA.next=hi.next+1:=by rw[eA,Hp.next_put,Hp.next_push]
 have IA:Iv h hA p w ns ns' pc { s with limits:=s.limits / 5 } [] xo .nilSlice nso []:=I0.upd okA oa (fun n hn=>.inl hn) (mr.keep (fun n hn=>gA n (hlt n hn).2) oa) ((gA _ oa).trans hn) ((gA _ oa).trans hf) (fun n h1 _ _ _ _=>gA n h1) b1 oa
 have hoN:h.next+5<=hi.next/\hi.next<hA.next/\hi.next∉nso/\hi.next∉ns':=⟨oa,oa,fun h1=>by have:=(lo hi.next (by simp[h1])).2;omega,fun h1=>by have:=(hlt hi.next h1).2;omega⟩
 have tl:∀ {wi':Nat} {x11 x14 x16:AV},jfm pc (pk pc.flags 1073741824) uses i (s,rd,w)=(⟨s.ops++[⟨2,w.values.length,decide (fs % 2=1),(jbh w.m wi' cls s.need s.fixed).1,(jbh w.m wi' cls s.need s.fixed).2.1⟩],s.limits / 5,(jbh w.m wi' cls s.need s.fixed).2.2.1,(jbh w.m wi' cls s.need s.fixed).2.2.2⟩,rd,{ w with values:=w.values++[cls] }) ->
  W F jd9 (.mk (frD h p pc x9 (.s (.ptr hi.next 0)) x11 (vi cls) (vi (rz rd uses)) x14 (vi uses) x16 (vi wi') (vb true) (vi ↑i) a0 (vi ↑(s.limits / 5)) a1 a2 a3) hA) (qdv 3 (j4r F (.region [(.mk .none (.p (.mv (.g 19))) .none),(.mk .none (.p (.bin .add (.l 0) (.c (.s (.int .i64 1))))) .none),(.mk (.some 19) (.p (.mv (.l 0))) .none)]) (j4s F jds Q))):=by
  intro wi' x11 x14 x16 hD
  refine j5q B wk hN IA (by simp only;omega) hc2 oA hoN (fun hj ns'' xo' nso' x9' I4=>?_)
  simp(disch:=go_num) only[go_sem,jad]
  rw[hD] at hQ
  exact hQ _ _ _ _ _ _ _ _ _ _ _ _ I4
 by_cases hw5:(wi:Int)=5
 .have hw:wi=5:=oa
  have fail:jf1 w pc uses rd cls s=false->∀ {x11 x14 x16:AV},W F jd9 (.mk (frD h p pc x9 (.s (.ptr hi.next 0)) x11 (vi cls) (vi (rz rd uses)) x14 (vi uses) x16 (vi ((1:Nat):Int)) (vb true) (vi ↑i) a0 (vi ↑(s.limits / 5)) a1 a2 a3) hA) (qdv 3 (j4r F (.region [(.mk .none (.p (.mv (.g 19))) .none),(.mk .none (.p (.bin .add (.l 0) (.c (.s (.int .i64 1))))) .none),(.mk (.some 19) (.p (.mv (.l 0))) .none)]) (j4s F jds Q))):=fun hre=>tl (by
   unfold jfm
   simp only[hwi2,hcls,hfs,hw,hre,f1c,and_false,if_false,if_true])
  have gx:∀ {b:Nat},b<hi.next->hA.get b=hi.get b:=fun h1=>gA _ h1
  by_cases cA:(kn:Int)<uses
  .obtain ⟨ok1,hok1⟩:∃ o,s.ops[kn]?=some o:=⟨_,f0b oa⟩
   obtain⟨ob1,orow,oms,oe1,oe2,oe3,⟨rfl,rfl⟩,oe5,oe6⟩:=so.at hok1
   have hob:=lo ob1 (by simp[oe6])
   have eo2:=jd1 (j:=2) (c:=.bool ok1.late) oe2 rfl
   have eo1:=jd1 (j:=1) (c:=si ok1.value) oe2 rfl
   obtain⟨vc,hvc⟩:∃ c,w.values[ok1.value]?=some c:=⟨_,f0b (hops _ (f0c hok1))⟩
   obtain⟨vb1,vrow,vms,ve1,ve2,ve3,⟨rfl,rfl⟩,ve5,ve6⟩:=hv.at hvc
   have hvb:=hlt vb1 (by simp[e0,ve6])
   have hreu:jf1 w pc uses rd cls s=(decide (kn<uses)&&(decide (kn≠rd)&&(!ok1.late&&(decide (g2 s.need cls+1<g2 w.m cls)&&decide (vc=cls))))):=by
    unfold jf1
    simp only[hkn,f0p,hok1,f1l,hvc]
   have en:=qso (p:=s.need) hc2
   have er:=qmy (p:=w.m) (r:=[a,b,si w.cur,k,si w.all]) hc2
   have ew:jbo (cls*1) [SV.int IntKind.i64 (↑(g2 s.need cls)+1)] [si ↑s.need.1,si ↑s.need.2]=some [si ↑(s2 s.need cls (g2 s.need cls+1)).1,si ↑(s2 s.need cls (g2 s.need cls+1)).2]:=by
    have:=qzv (p:=s.need) (z:=g2 s.need cls+1) hc2
    rw[show((g2 s.need cls+1:Nat):Int)=↑(g2 s.need cls)+1 from by omega] at this
    exact this
   have hgl:g2 s.need cls<=10:=by unfold g2;split<;>omega
   have rzne:(¬ (kn:Int)=rz rd uses)↔kn≠rd:=by unfold rz;split<;>omega
   by_cases cB:(kn:Int)=rz rd uses
   .have hre:jf1 w pc uses rd cls s=false:=by
     have:¬ kn≠rd:=fun h1=>rzne.2 h1 cB
     rw[hreu];simp[this]
    simp(disch:=go_num) only[go_sem,jfo,jfp,jfq,jfr,jfs,jbx,jao,jal,jbe B,hp,jj9,jet,jeu,jm6,jm7,and_false,false_and,if_false,jfe,jff,jdk,jdl,jdm,jdn,jjb,jbm,hfs,hwi,hwi2,hcnd,hci,hcl,jgx,hw5,jad,jb8,hu1,hkn,cA,eq_true cB,ne_eq]
    rw[←eA]
    exact fail hre
   .have hB:kn≠rd:=rzne.1 cB
    have cA':kn<uses:=oa
    by_cases cC:ok1.late=true
    .have hre:jf1 w pc uses rd cls s=false:=by rw[hreu];simp[cC]
     simp(disch:=go_num) only[go_sem,jfo,jfp,jfq,jfr,jfs,jbx,jao,jal,jbe B,hp,hx,jj9,jet,jeu,jm6,jm7,and_false,false_and,if_false,jfe,jff,jdk,jdl,jdm,jdn,jjb,jbm,hfs,hwi,hwi2,hcnd,hci,hcl,jgx,hw5,jad,jb8,hu1,hkn,cA,cB,cC,ne_eq,oe1,eo2]
     rw[←eA]
     exact fail hre
    .have cC':ok1.late=false:=by simpa using cC
     rw[cC'] at eo2
     by_cases cD:(g2 s.need cls:Int)+1<g2 w.m cls
     .have cD':g2 s.need cls+1<g2 w.m cls:=oa
      by_cases cE:(vc:Int)=cls
      .have cE':vc=cls:=oa
       have hre:jf1 w pc uses rd cls s=true:=by rw[hreu];simp[cA',hB,cC',cD',cE']
       simp(disch:=go_num) only[go_sem,jfo,jfp,jfq,jfr,jfs,jbx,jao,jal,jbe B,hp,hx,hn,hg,jj9,jet,jeu,jm6,jm7,and_false,false_and,if_false,jfe,jff,jdk,jdl,jdm,jdn,jjb,jbm,hfs,hwi,hwi2,hcnd,hci,hcl,jgx,hw5,jad,jb8,hu1,hkn,cA,cB,cC',ne_eq,oe1,eo2,en,er,cD,eq_true cE,eo1,ve1,ve2,ew]
       rw[←eA]
       obtain⟨hB2,eB⟩:∃ hB2,hB2=(((hA.put (h.next+3) (some (AB.arr [si ↑(s2 s.need cls (g2 s.need cls+1)).1,si ↑(s2 s.need cls (g2 s.need cls+1)).2] 3))).put hi.next (some (AB.arr [SV.int IntKind.i64 2,SV.int IntKind.i64 0,SV.bool true,SV.int IntKind.i64 0,SV.int IntKind.i64 0] 80))).put hi.next (some (AB.arr [SV.int IntKind.i64 2,SV.int IntKind.i64 0,SV.bool true,SV.int IntKind.i64 5,SV.int IntKind.i64 0] 80))).put hi.next (some (AB.arr [SV.int IntKind.i64 2,SV.int IntKind.i64 0,SV.bool true,SV.int IntKind.i64 5,SV.int IntKind.i64 kn] 80)):=⟨_,rfl⟩
       rw[←eB]
       have okB:Ok hB2:=by rw[eB];exact jas (jas (jas (jas okA)))
       have ph:=ok.pos
       have gB:∀ n,n≠h.next+3->n≠hi.next->hB2.get n=hA.get n:=fun n h1 h2=>by
        rw[eB,jak (jas (jas (jas okA))) ph,if_neg h2,jak (jas (jas okA)) ph,if_neg h2,jak (jas okA) ph,if_neg h2,jak okA oa,if_neg h1]
       have nB:hB2.get (h.next+3)=some (AB.arr [si ↑(s2 s.need cls (g2 s.need cls+1)).1,si ↑(s2 s.need cls (g2 s.need cls+1)).2] 3):=by
        rw[eB,jak (jas (jas (jas okA))) ph,if_neg oa,jak (jas (jas okA)) ph,if_neg oa,jak (jas okA) ph,if_neg oa,jak okA oa,if_pos rfl]
       have oB:hB2.get hi.next=some (AB.arr [si (2:Nat),si (0:Nat),SV.bool true,si (5:Nat),si kn] 80):=by
        rw[eB,jak (jas (jas (jas okA))) ph,if_pos rfl];rfl
       have xB:hB2.next=hi.next+1:=by rw[eB,Hp.next_put,Hp.next_put,Hp.next_put,Hp.next_put,nA]
       clear eB
       have hm1:=wk.m1
       have hm2:=wk.m2
       have hb1:(s2 s.need cls (g2 s.need cls+1)).1<=10/\(s2 s.need cls (g2 s.need cls+1)).2<=10/\s.fixed.1<=(s2 s.need cls (g2 s.need cls+1)).1/\s.fixed.2<=(s2 s.need cls (g2 s.need cls+1)).2:=by
        have hc3:cls=0∨cls=1:=oa
        rcases hc3 with h0 | h0
        .simp only[h0,g2,s2,if_true] at cD' ⊢;omega
        .simp only[h0,g2,s2,Nat.one_ne_zero,if_false] at cD' ⊢;omega
       have IB:=IA.upd (hj:=hB2) (w':=w) (ns2:=ns') (need:=s2 s.need cls (g2 s.need cls+1)) (fixed:=s.fixed) (lim:=s.limits / 5) okB oa (fun n hn=>.inl hn) (mr.keep (fun n hn=>(gB n (by have:=ln n hn;omega) (by have:=(hlt n hn).2;omega)).trans (gA n (hlt n hn).2)) oa) nB ((gB _ oa oa).trans IA.hf) (fun n h1 h3' h4 h5 h6=>gB n h4 (by
        rcases h6 with h6 | h6 | h6
        .omega
        .omega
        .have:=(lo n h6).2;omega)) hb1 oa
       refine j5r B wk hN IB (by simp only;omega) hc2 oB ⟨oa,oa,hoN.2.2⟩ (fun hj ns'' xo' nso' x9' I4=>?_)
       simp(disch:=go_num) only[go_sem,jad]
       have hD:jfm pc (pk pc.flags 1073741824) uses i (s,rd,w)=(⟨s.ops++[⟨2,w.values.length,true,5,kn⟩],s.limits / 5,s2 s.need cls (g2 s.need cls+1),s.fixed⟩,kn,{ w with values:=w.values++[cls] }):=by
        unfold jfm
        simp only[hwi2,hcls,hw,hre,and_self,if_true,hkn]
       rw[hD] at hQ
       have hrz:rz kn uses=(kn:Int):=by unfold rz;rw[if_neg oa]
       simp only[hrz] at hQ
       exact hQ _ _ _ _ _ _ _ _ _ _ _ _ I4
      .have cE':¬ vc=cls:=oa
       have hre:jf1 w pc uses rd cls s=false:=by rw[hreu];simp[cE']
       simp(disch:=go_num) only[go_sem,jfo,jfp,jfq,jfr,jfs,jbx,jao,jal,jbe B,hp,hx,hn,hg,jj9,jet,jeu,jm6,jm7,and_false,false_and,if_false,jfe,jff,jdk,jdl,jdm,jdn,jjb,jbm,hfs,hwi,hwi2,hcnd,hci,hcl,jgx,hw5,jad,jb8,hu1,hkn,cA,cB,cC',ne_eq,oe1,eo2,en,er,cD,cE,eo1,ve1,ve2]
       rw[←eA]
       exact fail hre
     .have cD':¬ g2 s.need cls+1<g2 w.m cls:=oa
      have hre:jf1 w pc uses rd cls s=false:=by rw[hreu];simp[cD']
      simp(disch:=go_num) only[go_sem,jfo,jfp,jfq,jfr,jfs,jbx,jao,jal,jbe B,hp,hx,hn,hg,jj9,jet,jeu,jm6,jm7,and_false,false_and,if_false,jfe,jff,jdk,jdl,jdm,jdn,jjb,jbm,hfs,hwi,hwi2,hcnd,hci,hcl,jgx,hw5,jad,jb8,hu1,hkn,cA,cB,cC',ne_eq,oe1,eo2,en,er,cD]
      rw[←eA]
      exact fail hre
  .have hre:jf1 w pc uses rd cls s=false:=by
    unfold jf1
    have:¬ kn<uses:=oa
    simp[hkn,this]
   simp(disch:=go_num) only[go_sem,jfo,jfp,jfq,jfr,jfs,jbx,jao,jal,jbe B,hp,jj9,jet,jeu,jm6,jm7,and_false,false_and,if_false,jfe,jff,jdk,jdl,jdm,jdn,jjb,jbm,hfs,hwi,hwi2,hcnd,hci,hcl,jgx,hw5,jad,jb8,hu1,hkn,cA]
   rw[←eA]
   exact fail hre
 .simp (disch:=go_num) only[go_sem,jfo,jfp,jfq,jfr,jfs,jbx,jao,jal,jbe B,hp,jj9,jet,jeu,jm6,jm7,and_false,false_and,if_false,jfe,jff,jdk,jdl,jdm,jdn,jjb,jbm,hfs,hwi,hwi2,hcnd,hci,hcl,jgx,hw5,jad,jb8]
  rw[←eA]
  refine tl ?_
  have hw:¬ wi=5:=oa
  unfold jfm
  simp only[hwi2,hcls,hfs,hw,false_and,if_false]
end
theorem jrs {p:Pc} {flags uses i:Nat} {x:Iw×Nat×Ms} (hr:x.2.1<=uses):(jfm p flags uses i x).2.1<=uses/\(jfm p flags uses i x).1.ops.length=x.1.ops.length+1/\(jfm p flags uses i x).2.2={ x.2.2 with values:=x.2.2.values++[jgk p i] }/\((∀ o∈x.1.ops,o.value<x.2.2.values.length)->∀ o∈(jfm p flags uses i x).1.ops,o.value<(jfm p flags uses i x).2.2.values.length):=by
 have hk:pk p.b (uses+1)<uses+1:=jew oa
 unfold jfm
 simp only
 split
 .refine ⟨by simp only;omega,se,rfl,fun h o ho=>?_⟩
  simp only[f0e,f0v,f0d,f2c] at ho ⊢
  rcases ho with ho | rfl
  .have:=h o ho;omega
  .simp
 .refine ⟨hr,se,rfl,fun h o ho=>?_⟩
  simp only[f0e,f0v,f0d,f2c] at ho ⊢
  rcases ho with ho | rfl
  .have:=h o ho;omega
  .simp
theorem jsz {p:Pc} {i:Nat}:jgk p i<2:=by
 unfold jgk
 have h1:=Int.emod_nonneg (p.c / 2 ^ i) (by omega:(2:Int)≠0)
 have h2:=Int.emod_lt_of_pos (p.c / 2 ^ i) (by omega:(0:Int)<2)
 omega
theorem Wok.value {w:Ms} {N c:Nat} (k:Wok w N) (hc:c<2):Wok { w with values:=w.values++[c] } (N+1) :=
 ⟨k.m1,k.m2,fun x hx=>by
  rcases f0e.1 hx with h | h
  .exact k.vals x h
  .simp at h;omega,fun v hv=>by have:=k.known v hv;simp;omega,k.cur,by simp;exact k.nv,f17 k.nb,f17 k.nk,fun b hb=>by have:=k.ni b hb;omega,f17 k.na⟩
section
variable {F:Fns} (B:Base F)
include B
theorem jwa {h:Hp} {p:Nat} {ns:List Nat} (pin:Pin pc) {uses:Nat} (hu:uses<=3):∀ (d:Nat) {hi:Hp} {w:Ms} {N:Nat} (_:Wok w N) (_:N+d<=100000) {ns':List Nat} {s:Iw} {xo:SV} {nso:List Nat} (_:Iv h hi p w ns ns' pc s [] xo .nilSlice nso []) {i rd:Nat} (_:i+d=1+pk pc.flags 1073741824 / 2 ^ 8 % 2) (_:s.ops.length=uses+i) (_:∀ o∈s.ops,o.value<w.values.length) (_:rd<=uses)
 {x9 x10 x11 x12 x14 x16 x17 x18:AV} (hQ:∀ hj ns' xo nso x9 x10 x11 x12 x13 x14 x16 x17 x18,Iv h hj p (jeb pc (pk pc.flags 1073741824) uses d i (s,rd,w)).2.2 ns ns' pc (jeb pc (pk pc.flags 1073741824) uses d i (s,rd,w)).1 [] xo .nilSlice nso []->Wok (jeb pc (pk pc.flags 1073741824) uses d i (s,rd,w)).2.2 (N+d)->(jeb pc (pk pc.flags 1073741824) uses d i (s,rd,w)).2.2.m=w.m->Q (.exit 2) (.mk (frD h p pc x9 x10 x11 x12 x13 x14 (vi uses) x16 x17 x18 (vi ↑(i+d)) a0 (vi ↑(jeb pc (pk pc.flags 1073741824) uses d i (s,rd,w)).1.limits) a1 a2 a3) hj)),
 W F jds.loop (.mk (frD h p pc x9 x10 x11 x12 (vi (rz rd uses)) x14 (vi uses) x16 x17 x18 (vi ↑i) a0 (vi ↑s.limits) a1 a2 a3) hi) Q
 | 0,hi,w,N,wk,hN,ns',s,xo,nso,I,i,rd,hi2,hl,hops,hrd,x9,x10,x11,x12,x14,x16,x17,x18,hQ=>by
  rw[jai]
  unfold jds
  have hfl:pk pc.flags 1073741824<1073741824:=jew oa
  have hf8:pk pc.flags 1073741824 / 2 ^ 8<1073741824:=by have:=f27 (pk pc.flags 1073741824) (2 ^ 8);omega
  have hcnd:¬ (i:Int)<1+((pk pc.flags 1073741824 / 2 ^ 8:Nat):Int) % 2:=oa
  simp(disch:=go_num) only[go_sem,jfe,jff,jdk,jdl,jdm,jdn,jjb,jbm,hcnd,jad,jj9,jet,jeu,jm6,jm7,and_false,false_and,if_false]
  exact hQ hi ns' xo nso _ _ _ _ _ _ _ _ _ I wk rfl
 | d+1,hi,w,N,wk,hN,ns',s,xo,nso,I,i,rd,hi2,hl,hops,hrd,x9,x10,x11,x12,x14,x16,x17,x18,hQ=>by
  refine qfu B pin wk oa I oa hl hu hops hrd (fun hj ns' xo nso y9 y10 y11 y12 y14 y16 y17 y18 I'=>?_)
  obtain⟨f1,f2,f3,f4⟩:=jrs (p:=pc) (flags:=pk pc.flags 1073741824) (uses:=uses) (i:=i) (x:=(s,rd,w)) hrd
  have e1:jeb pc (pk pc.flags 1073741824) uses (d+1) i (s,rd,w)=jeb pc (pk pc.flags 1073741824) uses d (i+1) (jfm pc (pk pc.flags 1073741824) uses i (s,rd,w)):=rfl
  rw[e1] at hQ
  have f5:(jfm pc (pk pc.flags 1073741824) uses i (s,rd,w)).2.2.m=w.m:=by rw[f3]
  have wk':Wok (jfm pc (pk pc.flags 1073741824) uses i (s,rd,w)).2.2 (N+1):=by rw[f3];exact wk.value jsz
  generalize jfm pc (pk pc.flags 1073741824) uses i (s,rd,w)=y at *
  obtain⟨s',rd',w'⟩:=y
  refine jwa pin hu d wk' oa I' oa (by rw[f2,hl];omega) (f4 hops) f1 (fun hj ns' xo nso y9 y10 y11 y12 y13 y14 y16 y17 y18 I'' wk'' hm=>?_)
  have e2:i+1+d=i+(d+1):=oa
  rw[e2]
  have e3:N+1+d=N+(d+1):=oa
  rw[e3] at wk''
  exact hQ hj ns' xo nso _ _ _ _ _ _ _ _ _ I'' wk'' (hm.trans f5)
end
theorem Iv.appR {h:Hp} {p:Nat} {w:Ms} {ns:List Nat} {s:Iw} {sp:List (Nat×Nat)} {nso:List Nat} (I:Iv h hi p w ns ns' pc s sp xo xs nso nss) (hl:sp.length<=100) (o:Nat×Nat) :
 ∃ h4 nss',jmr (hi.push (.arr (jcq o) 83)) 83 2 16 (.s xs) (.s (.slice hi.next 0 1 1 true 2))=some (.s (.slice (hi.next+1) 0 (sp.length+1) (sp.length+1) false 2),h4)/\Ok h4/\h4.get (h.next+2)=some (.arr [si (pk pc.op 256),xo,xs] 62) /\
  Iv h (h4.put (h.next+2) (some (.arr [si (pk pc.op 256),xo,.slice (hi.next+1) 0 (sp.length+1) (sp.length+1) false 2] 62))) p w ns ns' pc s (sp++[o]) xo (.slice (hi.next+1) 0 (sp.length+1) (sp.length+1) false 2) nso nss':=by
 obtain⟨ok,nx,mr0,mv0,hp,hr,hx,hn0,hf0,so,ss,lo,ln,nd,b1,b2⟩:=I
 have hlo:∀ n∈nss,h.next+5<=n/\n<hi.next:=fun n hn=>lo n (by simp[hn])
 have hnd:=f0m.1 nd
 have hnd2:=f0m.1 hnd.2.1
 obtain⟨h4,e4,ok4,nx4,kp4,kt4,sl4⟩:=ss.app1 (bytes:=16) (row:=jcq o) (a:=o) (ms:=[]) ok (fun n hn=>by have:=hlo n hn;omega) rfl ⟨rfl,rfl⟩ oa oa
 have nsl:∀ n,n<h.next+5->n∉nss:=fun n h1 h2'=>by have:=(hlo n h2').1;omega
 refine⟨h4,(hi.next+1)::(nss.tail++[]),e4,ok4,(kp4 _ oa (nsl _ oa)).trans hx,?_⟩
 have g5:∀ n,n≠h.next+2->(h4.put (h.next+2) (some (AB.arr [si ↑(pk pc.op 256),xo,SV.slice (hi.next+1) 0 (sp.length+1) (sp.length+1) false 2] 62))).get n=h4.get n:=fun n hn=>by
  rw[jak ok4 oa,if_neg hn]
 have x5:(h4.put (h.next+2) (some (AB.arr [si ↑(pk pc.op 256),xo,SV.slice (hi.next+1) 0 (sp.length+1) (sp.length+1) false 2] 62))).get (h.next+2)=some (AB.arr [si ↑(pk pc.op 256),xo,SV.slice (hi.next+1) 0 (sp.length+1) (sp.length+1) false 2] 62):=by
  rw[jak ok4 oa,if_pos rfl]
 have n5:(h4.put (h.next+2) (some (AB.arr [si ↑(pk pc.op 256),xo,SV.slice (hi.next+1) 0 (sp.length+1) (sp.length+1) false 2] 62))).next=hi.next+2:=by
  rw[Hp.next_put,nx4]
 have ok5:Ok (h4.put (h.next+2) (some (AB.arr [si ↑(pk pc.op 256),xo,SV.slice (hi.next+1) 0 (sp.length+1) (sp.length+1) false 2] 62))):=jas ok4
 generalize h4.put (h.next+2) (some (AB.arr [si ↑(pk pc.op 256),xo,SV.slice (hi.next+1) 0 (sp.length+1) (sp.length+1) false 2] 62))=h5 at g5 x5 n5 ok5
 have k5:∀ n,n<hi.next->n≠h.next+2->n∉nss->h5.get n=hi.get n:=fun n h1 h2' h5'=>(g5 n h2').trans (kp4 n h1 h5')
 have dj:∀ n∈ns',n∉nss:=fun n hn h1=>hnd.2.2 n hn n (by simp[h1]) rfl
 refine⟨ok5,oa,mr0.keep (fun n hn=>k5 n (mr0.lt n hn).2 (by have:=ln n hn;omega) (dj n hn)) oa,⟨ok5,by have:=mv0.nx;omega,mv0.new,fun n h1 h2'=>(k5 n oa oa (nsl n oa)).trans (mv0.keep n h1 h2')⟩,
  (k5 _ oa oa (nsl _ oa)).trans hp,(k5 _ oa oa (nsl _ oa)).trans hr,x5,(k5 _ oa oa (nsl _ oa)).trans hn0,(k5 _ oa oa (nsl _ oa)).trans hf0,
  so.keep (fun n hn=>k5 n (lo n (by simp[hn])).2 (by have:=(lo n (by simp[hn])).1;omega) (fun h1=>hnd2.2.2 n hn n h1 rfl)),?_,fun n hn=>?_,ln,?_,b1,b2⟩
 .exact (sl4 (E':=ER) (fun _ _ _ _ h=>h)).keep (h':=h5) (fun n hn=>g5 n (by
   rcases f0f.1 hn with rfl | hn
   .omega
   .have:=(hlo n (f0j (by simpa using hn))).1;omega))
 .rcases f0e.1 hn with hn | hn
  .have:=lo n (by simp[hn]);omega
  .rcases f0f.1 hn with rfl | hn
   .omega
   .have:=hlo n (f0j (by simpa using hn));omega
 .have e:ns'++(nso++nss)=(ns'++nso)++(nss++[]):=se
  have e':ns'++(nso++((hi.next+1)::(nss.tail++[])))=(ns'++nso)++(((hi.next+1)::(nss.tail++[]))++[]):=se
  rw[e']
  rw[e] at nd
  refine jcd (ns:=nss) (B:=[]) (N:=hi.next) nd (fun n hn=>?_) (jcr hnd2.2.1 .nil se (fun h1=>by have:=(hlo _ h1).2;omega) se) (fun n hn=>?_)
  .rw [←e] at hn
   rcases f0e.1 hn with hn | hn
   .exact (mr0.lt n hn).2
   .exact (lo n hn).2
  .rcases f0f.1 hn with rfl | hn
   .exact .inr oa
   .exact .inl (f0j (by simpa using hn))
abbrev frE (h:Hp) (p:Nat) (pc:Pc) (x3 x4 x5 x6 x7 x8 x9 x10 x11 x12 x13 x14 x15 x16 x17 x18 x19 a0 x24 a1 a2 a3:AV):List AV:=[.s (.ptr p 0),.agg (jb8 pc),.s (.ptr (h.next+1) 0),x3,x4,x5,x6,x7,x8,x9,x10,x11,x12,x13,x14,x15,x16,x17,x18,x19,.s (.ptr (h.next+2) 0),a0,.s (.slice (h.next+4) 0 2 2 true 1),.s (.slice (h.next+3) 0 2 2 true 1),x24,a1,a2,vi ↑(pk pc.flags 1073741824),a3,.s (.ptr h.next 0)]
section
variable {F:Fns} (B:Base F)
include B
theorem jrt {h:Hp} {p:Nat} {w:Ms} {ns:List Nat} {s:Iw} {nso:List Nat} {c:Nat} (hc:c<2) (hm:g2 w.m c<=10):∀ (k:Nat) (_:k<g2 w.m c) {hi:Hp} {sp:List (Nat×Nat)} {xs:SV} {nss:List Nat} (_:Iv h hi p w ns ns' pc s sp xo xs nso nss) (_:sp.length+k<=100) {x3:AV}
 (hQ:∀ hj xs nss x3,Iv h hj p w ns ns' pc s (sp++jbq c (g2 w.m c) k) xo xs nso nss->Q (.exit 6) (.mk (frE h p pc x3 (vi 0) x5 x6 (vi c) x8 x9 x10 x11 x12 x13 x14 x15 x16 x17 x18 x19 a0 x24 a1 a2 a3) hj)),
 W F jid.loop (.mk (frE h p pc x3 (vi k) x5 x6 (vi c) x8 x9 x10 x11 x12 x13 x14 x15 x16 x17 x18 x19 a0 x24 a1 a2 a3) hi) Q
 | 0,hk,hi,sp,xs,nss,I,hl,x3,hQ=>by
  rw[jai]
  unfold jid
  simp(disch:=go_num) only[go_sem,jfe,jff,jdk,jdl,jdm,jdn,jjb,jbm,jad,jj9,jet,jeu,jm6,jm7,and_false,false_and,if_false,f0s]
  have:=hQ hi xs nss (vb false) (by rw[show jbq c (g2 w.m c) 0=[] from rfl,f06];exact I)
  exact this
 | k+1,hk,hi,sp,xs,nss,I,hl,x3,hQ=>by
  rw[jai]
  unfold jid jrl
  have I0:=I
  obtain⟨ok,nx,mr,mv,hp,hr,hx,hn,hf,so,ss,lo,ln,nd,b1,b2⟩:=I
  obtain⟨⟨a,b,kk,n1,n2,n3,hg,hv,hb,hk',e0⟩,hd',hlt⟩:=id mr
  have hp0:=hlt p (by simp[e0])
  have hpl:=ln p (by simp[e0])
  have er:=qmy (p:=w.m) (r:=[a,b,si w.cur,kk,si w.all]) hc
  have hk1:(0:Int)<((k+1:Nat):Int):=oa
  have hsub:(g2 w.m c:Int) - ((k+1:Nat):Int)=((g2 w.m c - (k+1):Nat):Int):=oa
  have hdec:((k+1:Nat):Int) - 1=(k:Int):=oa
  obtain⟨h4,nss',e4,ok4,x4,I4⟩:=I0.appR oa (c,g2 w.m c - (k+1))
  have e4':jmr (hi.push (AB.arr [si ↑c,SV.int IntKind.i64 ↑(g2 w.m c - (k+1))] 83)) 83 2 16 (AV.s xs) (AV.s (SV.slice hi.next 0 1 1 true 2))=some (.s (.slice (hi.next+1) 0 (sp.length+1) (sp.length+1) false 2),h4):=e4
  simp(disch:=go_num) only[go_sem,jfe,jff,jdk,jdl,jdm,jdn,jjb,jbm,jad,jj9,jet,jeu,jm6,jm7,and_false,false_and,if_false,hk1,hx,hg,er,hsub,hdec,e4',x4]
  refine jrt hc hm k oa I4 (by simp;omega) (fun hj xs nss x3 I5=>?_)
  rw[f0g] at I5
  exact hQ hj xs nss x3 I5
theorem jru {h:Hp} {p:Nat} {w:Ms} {ns:List Nat} (pin:Pin pc) {N:Nat} (wk:Wok w N) {s:Iw} {nso:List Nat} {c:Nat} (hc:c<2) (hnd:g2 s.need c<g2 w.m c) {sp:List (Nat×Nat)} (I:Iv h hi p w ns ns' pc s sp xo xs nso nss) (hl:sp.length<=50) {x3 x4:AV}
 (hQ:∀ hj xs nss x3 x4 x5 x6,Iv h hj p w ns ns' pc s (sp++jbq c (g2 w.m c) (min (pk pc.b 4) (g2 w.m c - 1 - g2 s.need c))) xo xs nso nss->W F jgh.loop (.mk (frE h p pc x3 x4 x5 x6 (vi ((c+1:Nat):Int)) x8 x9 x10 x11 x12 x13 x14 x15 x16 x17 x18 x19 a0 x24 a1 a2 a3) hj) Q) :
 W F jgh.loop (.mk (frE h p pc x3 x4 x5 x6 (vi c) x8 x9 x10 x11 x12 x13 x14 x15 x16 x17 x18 x19 a0 x24 a1 a2 a3) hi) Q:=by
 rw[jai]
 unfold jgh jrm
 have I0:=I
 obtain⟨ok,nx,mr,mv,hp,hr,hx,hn,hf,so,ss,lo,ln,nd,b1,b2⟩:=I
 obtain⟨⟨a,b,kk,n1,n2,n3,hg,hv,hb,hk',e0⟩,hd',hlt⟩:=id mr
 have hp0:=hlt p (by simp[e0])
 have hpl:=ln p (by simp[e0])
 obtain⟨⟨q1,q2⟩,⟨q3,q4⟩,⟨q5,q6⟩,⟨q7,q8⟩,⟨q9,q10⟩,⟨q11,q12⟩,⟨q13,q14⟩⟩:=pin
 have er:=qmy (p:=w.m) (r:=[a,b,si w.cur,kk,si w.all]) hc
 have en:=qso (p:=s.need) hc
 have hm1:=wk.m1
 have hm2:=wk.m2
 have hgm:g2 w.m c<=10:=by unfold g2;split<;>omega
 have hc1:(c:Int)<2:=oa
 have hpk:pk pc.b 4<4:=jew oa
 have hmin:(if (pk pc.b 4:Int)<=(g2 w.m c:Int) - 1 - (g2 s.need c:Int) then (pk pc.b 4:Int) else (g2 w.m c:Int) - 1 - (g2 s.need c:Int))=((min (pk pc.b 4) (g2 w.m c - 1 - g2 s.need c):Nat):Int):=by
  rw[Nat.min_def]
  split<;>split<;>omega
 simp(disch:=go_num) only[go_sem,jfe,jff,jdk,jdl,jdm,jdn,jjb,jbm,jfo,jfp,jfq,jfr,jfs,jbx,jao,jal,jbe B,jad,jj9,jet,jeu,jm6,jm7,and_false,false_and,if_false,hp,hn,jb8,hc1,hg,er,en,hmin]
 refine jrt B hc hgm _ oa I0 oa (fun hj xs nss x3 I5=>?_)
 simp(disch:=go_num) only[go_sem,jad]
 exact hQ hj xs nss _ _ _ _ I5
end
theorem jje {w:Ms} {p:Pc} {flags:Nat} (hk:∀ v∈w.known,v<w.values.length):∀ (d i:Nat) (s:Iw),w.known≠[]∨d=0->(∀ o∈s.ops,o.value<w.values.length)->(jfg w p flags d i s).ops.length=s.ops.length+d/\∀ o∈(jfg w p flags d i s).ops,o.value<w.values.length
 | 0,i,s,_,h=>⟨rfl,h⟩
 | d+1,i,s,hn,h=>by
  have hn':w.known≠[]:=by
   rcases hn with h | h
   .exact h
   .omega
  have h1:=jje (p:=p) (flags:=flags) hk d (i+1) (j00 w p flags i s) (.inl hn') (fun o ho=>by
   unfold j00 at ho
   simp only[f0e,f0v] at ho
   rcases ho with ho | rfl
   .exact h o ho
   .have hl:=jew (n:=Int.tdiv p.a (i+1)) (f1v.2 hn')
    rw[f0p,f0b hl]
    exact hk _ (f23 hl))
  refine⟨?_,h1.2⟩
  have:(j00 w p flags i s).ops.length=s.ops.length+1:=by unfold j00;simp
  show(jfg w p flags d (i+1) (j00 w p flags i s)).ops.length=_
  omega
theorem q1b (p:Nat×Nat):g2 p 0=p.1:=rfl
theorem q4r (p:Nat×Nat):g2 p 1=p.2:=rfl
def Nd (m need:Nat×Nat):Prop:=need.1<m.1/\need.2<m.2
theorem jwb (m:Nat×Nat) (wish c:Nat) (need fixed:Nat×Nat) (hc:c<2) (k:Nd m need):Nd m (jbh m wish c need fixed).2.2.1:=by
 have hc':c=0∨c=1:=oa
 unfold jbh
 rcases hc' with rfl | rfl
 .split
  .exact k
  .rename_i h3
   simp only[g2,if_true] at h3
   split<;>(refine⟨?_,k.2⟩;simp[g2,s2];omega)
 .split
  .exact k
  .rename_i h3
   simp only[g2,if_false,Nat.one_ne_zero] at h3
   split<;>(refine⟨k.1,?_⟩;simp[g2,s2];omega)
theorem j04 {w:Ms} {p:Pc} {flags:Nat} (hv:∀ c∈w.values,c<2):∀ (d i:Nat) (s:Iw),Nd w.m s.need->Nd w.m (jfg w p flags d i s).need
 | 0,i,s,h=>h
 | d+1,i,s,h=>j04 hv d (i+1) _ (jwb _ _ _ _ _ (by
  rw[f0p]
  cases h:w.values[w.known.getD (pk (Int.tdiv p.a (i+1)) w.known.length) 0]? with
  | none=>simp
  | some c=>exact hv c (f0c h)) h)
theorem qmz {p:Pc} {flags uses i:Nat} {x:Iw×Nat×Ms} (h:Nd x.2.2.m x.1.need):Nd x.2.2.m (jfm p flags uses i x).1.need:=by
 unfold jfm
 simp only
 split
 .rename_i h1
  have h2:g2 x.1.need (jgk p i)+1<g2 x.2.2.m (jgk p i):=by
   have:=h1.2
   unfold jf1 at this
   simp only[f05,decide_eq_true_eq] at this
   exact this.2.2.2.1
  have hc:=jsz (p:=p) (i:=i)
  have hc':jgk p i=0∨jgk p i=1:=oa
  rcases hc' with e | e
  .rw [e] at h2 ⊢;exact⟨h2,h.2⟩
  .rw [e] at h2 ⊢;exact⟨h.1,h2⟩
 .exact jwb _ _ _ _ _ jsz h
theorem j05 {p:Pc} {flags uses:Nat}:∀ (d i:Nat) (x:Iw×Nat×Ms),Nd x.2.2.m x.1.need->Nd (jeb p flags uses d i x).2.2.m (jeb p flags uses d i x).1.need/\(jeb p flags uses d i x).2.2.m=x.2.2.m
 | 0,i,x,h=>⟨h,rfl⟩
 | d+1,i,x,h=>by
  have e:(jfm p flags uses i x).2.2.m=x.2.2.m:=by unfold jfm;simp only;split<;>rfl
  have h1:=j05 (p:=p) (flags:=flags) (uses:=uses) d (i+1) (jfm p flags uses i x) (by rw[e];exact qmz h)
  exact⟨h1.1,h1.2.trans e⟩
section
variable {F:Fns} (B:Base F)
include B
theorem j87 {h:Hp} {p:Nat} {w:Ms} {ns:List Nat} (ok:Ok h) (r:MR tt h p w ns) {N:Nat} (wk:Wok w N) (hN:N<=90000) (pc:Pc) (pin:Pin pc) :
 WC F 51 [.s (.ptr p 0),.agg (jb8 pc)] h (fun v h'=>∃ a b n1 n2 ns',v=.agg [si (ja4 w pc).1.op,a,b]/\Sl h' tt.opd 5 false EO a (ja4 w pc).1.ops n1/\Sl h' tt.reg 2 false ER b (ja4 w pc).1.spoils n2/\MR tt h' p (ja4 w pc).2 ns'/\Mv h h' ns ns'/\(n1++n2).Nodup/\(∀ n∈n1++n2,h.next<=n/\n<h'.next/\n∉ns')):=by
 refine jaz (B.no 51 se _ _) ((B.T _).trans qfi) rfl ?_
 unfold jv4
 have pin0:=pin
 obtain⟨⟨q1,q2⟩,⟨q3,q4⟩,⟨q5,q6⟩,⟨q7,q8⟩,⟨q9,q10⟩,⟨q11,q12⟩,⟨q13,q14⟩⟩:=pin
 simp(disch:=go_num) only[go_sem,jfo,jfp,jfq,jfr,jfs,jbx,jao,jal,jb8,jbe B]
 obtain⟨H0,eH⟩:∃ H0,H0=(((((h.push (AB.arr [si pc.kind,si pc.op,si pc.a,si pc.b,si pc.c,si pc.limits,si pc.flags] 90)).push (AB.arr [SV.int IntKind.i64 0,SV.nilSlice,SV.nilSlice] 62)).push (AB.arr [SV.int IntKind.i64 0,SV.nilSlice,SV.nilSlice] 62)).put (h.next+2) (some (AB.arr [SV.int IntKind.i64 ↑(pk pc.op 256),SV.nilSlice,SV.nilSlice] 62))).push (AB.arr [SV.int IntKind.i64 0,SV.int IntKind.i64 0] 3)).push (AB.arr [SV.int IntKind.i64 0,SV.int IntKind.i64 0] 3):=⟨_,rfl⟩
 rw[←eH]
 have okH:Ok H0:=by rw[eH];exact ja9 (ja9 (jas (ja9 (ja9 (ja9 ok)))))
 have nH:H0.next=h.next+5:=by rw[eH];rfl
 have gH:∀ n,n<h.next->H0.get n=h.get n:=fun n hn=>by
  rw[eH];simp(disch:=go_num) only[jpf,Hp.next_push,Hp.next_put,f1u,Nat.reduceAdd,jj9,↓reduceIte,jv2]
 have g0:H0.get h.next=some (.arr (jb8 pc) 90):=by
  rw[eH];simp(disch:=go_num) only[jpf,Hp.next_push,Hp.next_put,f1u,Nat.reduceAdd,jj9,↓reduceIte,jv2,Option.some.injEq];rfl
 have g1:H0.get (h.next+1)=some (.arr [si 0,.nilSlice,.nilSlice] 62):=by
  rw[eH];simp(disch:=go_num) only[jpf,Hp.next_push,Hp.next_put,f1u,Nat.reduceAdd,jj9,↓reduceIte,jv2]
 have g2':H0.get (h.next+2)=some (.arr [si (pk pc.op 256),.nilSlice,.nilSlice] 62):=by
  rw[eH];simp(disch:=go_num) only[jpf,Hp.next_push,Hp.next_put,f1u,Nat.reduceAdd,jj9,↓reduceIte,jv2]
 have g3:H0.get (h.next+3)=some (.arr [si ((0:Nat):Int),si ((0:Nat):Int)] 3):=by
  rw[eH];simp(disch:=go_num) only[jpf,Hp.next_push,Hp.next_put,f1u,Nat.reduceAdd,jj9,↓reduceIte,Int.cast_ofNat_Int]
 have g4:H0.get (h.next+4)=some (.arr [si ((0:Nat):Int),si ((0:Nat):Int)] 3):=by
  rw[eH];simp(disch:=go_num) only[jpf,Hp.next_push,Hp.next_put,f1u,Nat.reduceAdd,↓reduceIte,Int.cast_ofNat_Int]
 clear eH
 have hns:∀ n∈ns,n<h.next:=fun n hn=>(r.lt n hn).2
 have hlm:pk pc.limits 1099511627776<1099511627776:=jew oa
 have I0:Iv h H0 p w ns ns pc ⟨[],pk pc.limits 1099511627776,(0,0),(0,0)⟩ [] .nilSlice .nilSlice [] [] :=
  ⟨okH,oa,r.keep (fun n hn=>gH n (hns n hn)) oa,⟨okH,oa,fun n hn=>.inl hn,fun n h1 _=>gH n h1⟩,g0,g1,g2',g3,g4,.nil,.nil,fun n hn=>by simp at hn,fun n hn=>.inl (hns n hn),by simpa using r.nodup,⟨se,se,se,se⟩,hlm⟩
 obtain⟨d,hd⟩:∃ d,d=if w.known=[] then 0 else pk pc.flags 1073741824 % 4:=⟨_,rfl⟩
 have hd3:d<=3:=by rw[hd];split<;>omega
 refine jv8 B pin0 wk oa d I0 (i:=0) rfl (by rw[hd];split<;>simp) (fun hj ns' xo nso b0 b1 b2 I1 hl1=>?_)
 obtain⟨s1,hs1⟩:∃ s1,jfg w pc (pk pc.flags 1073741824) d 0 ⟨[],pk pc.limits 1099511627776,(0,0),(0,0)⟩=s1:=⟨_,rfl⟩
 have hf1:=jje (p:=pc) (flags:=pk pc.flags 1073741824) wk.known d 0 ⟨[],pk pc.limits 1099511627776,(0,0),(0,0)⟩ (by
  by_cases h0:w.known=[]
  .right;rw[hd,if_pos h0]
  .exact .inl h0) (fun o ho=>by simp at ho)
 have hnd1:Nd w.m s1.need:=by
  rw[←hs1];exact j04 wk.vals d 0 _ ⟨by have:=wk.m1;simp only;omega,by have:=wk.m2;simp only;omega⟩
 rw[hs1] at I1 hl1 hf1 ⊢
 have x1:=I1.hx
 have sl1:=I1.so.len
 simp(disch:=go_num) only[go_sem,x1,sl1]
 have hrz:(-1:Int)=rz s1.ops.length s1.ops.length:=by unfold rz;rw[if_pos rfl]
 rw[hrz]
 refine jwa B pin0 (uses:=s1.ops.length) oa (1+pk pc.flags 1073741824 / 2 ^ 8 % 2) wk oa I1 (i:=0) (rd:=s1.ops.length) oa oa hf1.2 oa (fun hj2 ns2 xo2 nso2 y9 y10 y11 y12 y13 y14 y16 y17 y18 I2 wk2 hm2=>?_)
 obtain⟨y,hy⟩:∃ y,jeb pc (pk pc.flags 1073741824) s1.ops.length (1+pk pc.flags 1073741824 / 2 ^ 8 % 2) 0 (s1,s1.ops.length,w)=y:=⟨_,rfl⟩
 have hnd2:=(j05 (p:=pc) (flags:=pk pc.flags 1073741824) (uses:=s1.ops.length) (1+pk pc.flags 1073741824 / 2 ^ 8 % 2) 0 (s1,s1.ops.length,w) hnd1).1
 rw[hy] at I2 wk2 hm2 hnd2 ⊢
 have hfl:pk pc.flags 1073741824<1073741824:=jew oa
 have hf12:pk pc.flags 1073741824 / 2 ^ 12<1073741824:=by have:=f27 (pk pc.flags 1073741824) (2 ^ 12);omega
 have hI:ja4 w pc=(⟨pk pc.op 256,y.1.ops,jgy y.2.2 pc (pk pc.flags 1073741824) y.1.need⟩,y.2.2):=by
  unfold ja4
  have e1:(2:Nat) ^ 30=1073741824:=rfl
  have e2:(2:Nat) ^ 40=1099511627776:=rfl
  have e3:∀ n,jgy y.2.2 pc (pk pc.flags 1073741824) n=jgy w pc (pk pc.flags 1073741824) n:=fun n=>by unfold jgy;rw[hm2]
  simp only[e1,e2,←hd,hs1,hy,e3]
 have fin:∀ {hk:Hp} {sp:List (Nat×Nat)} {xs:SV} {nss:List Nat} {x3 x4 x5 x6 x7 x8 x19 x24 a0 a3:AV},sp=jgy y.2.2 pc (pk pc.flags 1073741824) y.1.need->Iv h hk p y.2.2 ns ns2 pc y.1 sp xo2 xs nso2 nss->W F jl0 (.mk (frE h p pc x3 x4 x5 x6 x7 x8 y9 y10 y11 y12 y13 y14 (vi ↑s1.ops.length) y16 y17 y18 x19 a0 x24 b1 b2 a3) hk) (jqh [IR.cell 2 3 true] fun v h'=>∃ a b n1 n2 ns',v=.agg [si (ja4 w pc).1.op,a,b]/\Sl h' tt.opd 5 false EO a (ja4 w pc).1.ops n1/\Sl h' tt.reg 2 false ER b (ja4 w pc).1.spoils n2/\MR tt h' p (ja4 w pc).2 ns'/\Mv h h' ns ns'/\(n1++n2).Nodup/\(∀ n∈n1++n2,h.next<=n/\n<h'.next/\n∉ns')):=by
  intro hk sp xs nss x3 x4 x5 x6 x7 x8 x19 x24 a0 a3 hsp I
  unfold jl0
  have okk:=I.ok
  have hx:=I.hx
  have hr:=I.hr
  simp(disch:=go_num) only[go_sem,hx,hr]
  rw[hI]
  have g5:∀ n,n≠h.next+1->(hk.put (h.next+1) (some (AB.arr [si ↑(pk pc.op 256),xo2,xs] 62))).get n=hk.get n:=fun n hn=>by
   rw[jak okk oa,if_neg hn]
  have n5:(hk.put (h.next+1) (some (AB.arr [si ↑(pk pc.op 256),xo2,xs] 62))).next=hk.next:=Hp.next_put _ _ _
  have ok5:Ok (hk.put (h.next+1) (some (AB.arr [si ↑(pk pc.op 256),xo2,xs] 62))):=jas okk
  generalize hk.put (h.next+1) (some (AB.arr [si ↑(pk pc.op 256),xo2,xs] 62))=h5 at g5 n5 ok5 ⊢
  have nx:=I.nx
  have hnd:=f0m.1 I.nd
  refine⟨xo2,xs,nso2,nss,ns2,rfl,I.so.keep (fun n hn=>g5 n (by have:=(I.lo n (by simp[hn])).1;omega)),?_,I.mr.keep (fun n hn=>g5 n (by have:=I.ln n hn;omega)) oa,⟨ok5,oa,I.mv.new,fun n h1 h2=>(g5 n oa).trans (I.mv.keep n h1 h2)⟩,hnd.2.1,fun n hn=>⟨by have:=(I.lo n hn).1;omega,(I.lo n hn).2,fun h1=>hnd.2.2 n h1 n hn rfl⟩⟩
  have:=I.ss.keep (h':=h5) (fun n hn=>g5 n (by have:=(I.lo n (by simp[hn])).1;omega))
  rw[hsp] at this
  exact this
 have hm1:=wk2.m1
 have hm3:=wk2.m2
 by_cases hc:((pk pc.flags 1073741824 / 2 ^ 12:Nat):Int) % 3=0
 .simp (disch:=go_num) only[go_sem,jfe,jff,jdk,jdl,jdm,jdn,jjb,jbm,eq_true hc]
  refine jru B pin0 wk2 (c:=0) oa hnd2.1 I2 se (fun hj3 xs3 nss3 z3 z4 z5 z6 I3=>?_)
  have hl3:∀ c r k,(jbq c r k).length=k:=fun c r k=>by
   induction k with
   | zero=>rfl
   | succ k ih=>simp[jbq,ih]
  refine jru B pin0 wk2 (c:=1) oa hnd2.2 I3 (by rw[f1m,hl3,q1b];have:=Nat.min_le_right (pk pc.b 4) (y.2.2.m.1 - 1 - g2 y.1.need 0);omega) (fun hj4 xs4 nss4 w3 w4 w5 w6 I4=>?_)
  rw[jai]
  unfold jgh
  simp(disch:=go_num) only[go_sem]
  refine fin ?_ I4
  unfold jgy
  have hc':pk pc.flags 1073741824 / 2 ^ 12 % 3=0:=oa
  rw[if_pos hc']
  simp only[f1m,q1b,q4r]
 .simp (disch:=go_num) only[go_sem,jfe,jff,jdk,jdl,jdm,jdn,jjb,jbm,hc]
  refine fin ?_ I2
  unfold jgy
  have hc':¬ pk pc.flags 1073741824 / 2 ^ 12 % 3=0:=oa
  rw[if_neg hc']
end
theorem jd3 {α:Type} {f:α->α}:∀ {l:List α} {i:Nat} {a:α},l[i]?=some a->l.modify i f=l.set i (f a)
 | [],i,a,h=>by simp at h
 | b::l,0,a,h=>by simp at h;subst h;rfl
 | b::l,i+1,a,h=>by
  have:=jd3 (f:=f) (l:=l) (i:=i) (a:=a) (by simpa using h)
  simp[this]
theorem qm0 {α:Type} {R S:List α} {a a':α} {i:Nat} (h:R.length=i):(R++a::S).set i a'=R++a'::S:=by
 subst h;simp
theorem jy9 {sz:Nat} {A B:List (List SV)} {row:List SV} {i j:Nat} {v:SV} (hA:A.flatten.length=i*sz) (hj:j<row.length):jbo (i*sz+j) [v] (A++row::B).flatten=some (A++(row.set j v)::B).flatten:=by
 refine(jfv _).2 ⟨?_,?_⟩
 .simp only[f2g,f0t,f0d,f2c,hA];omega
 .have e1:(A++row::B).flatten=A.flatten++(row.take j++(row.drop j++B.flatten)):=by
   rw[f2g,f0t,←f0g (row.take j),List.take_append_drop]
  have e2:(A++(row.set j v)::B).flatten=A.flatten++(row.take j++(v::(row.drop (j+1)++B.flatten))):=by
   rw[f2g,f0t,List.set_eq_take_append_cons_drop,if_pos hj]
   simp
  have lt:(row.take j).length=j:=by simp;omega
  rw[e1,e2]
  have t1:(A.flatten++(row.take j++(row.drop j++B.flatten))).take (i*sz+j)=A.flatten++row.take j:=by
   rw[←f0g,List.take_append_of_le_length (by rw[f0d,hA,lt];exact f0h _),List.take_of_length_le (by rw[f0d,hA,lt];exact f0h _)]
  have t2:(A.flatten++(row.take j++(row.drop j++B.flatten))).drop (i*sz+j+1)=row.drop (j+1)++B.flatten:=by
   rw[←f0g,←f0g,f0g (A.flatten++row.take j),List.drop_append]
   have l1:(A.flatten++row.take j).length=i*sz+j:=by rw[f0d,hA,lt]
   rw[l1,f2w (by rw[l1];omega),f1m,show i*sz+j+1 - (i*sz+j)=1 by omega,List.drop_append_of_le_length (by simp;omega),List.drop_drop]
  rw[f2c,t1,t2]
  simp
section
variable {α:Type} {sz ty:Nat} {ex:Bool} {E:List SV->α->List Nat->Prop} {h:Hp} {x:SV} {l:List α} {ns:List Nat}
theorem Sl.upd (k:Sl h ty sz ex E x l ns) {i:Nat} {a:α} (hi:l[i]?=some a):∃ b row ms M1 M2 cells,jqo sz (.s x) (vi (i:Int))=some (.s (.ptr b (i*sz)))/\h.get b=some (.arr cells ty)/\rdB (h.get b) (i*sz) sz=some row/\row.length=sz/\E row a ms/\ns=b::(M1++(ms++M2)) /\
 (∀ {j:Nat} {v:SV},j<sz->∃ cells',jbo (i*sz+j) [v] cells=some cells'/\∀ {h':Hp} {E':List SV->α->List Nat->Prop} {a':α} {ms':List Nat},h'.get b=some (.arr cells' ty)->E' (row.set j v) a' ms'->(∀ row a m,(∀ n∈m,n∈M1++M2)->E row a m->E' row a m)->Sl h' ty sz ex E' x (l.set i a') (b::(M1++(ms'++M2)))):=by
 obtain⟨b,row,ms,e1,e2,e3,e4,e5,e6⟩:=k.at hi
 rcases k with⟨rfl,_,_⟩ | ⟨hne,b',rows,nss,rfl,hg,hR,rfl⟩
 .simp at hi
 .have hl:i<l.length:=by
   rcases f0n i l.length with h | h
   .exact h
   .rw [f0y h] at hi;cases hi
  have hb:b=b':=by
   have:=jct (size:=sz) (b:=b') (off:=0) (len:=l.length) (mc:=l.length) (sz:=sz) (ex:=ex) hl
   rw[this] at e1
   simp only[Option.some.injEq,AV.s.injEq,SV.ptr.injEq] at e1
   exact e1.1.symm
  subst hb
  obtain⟨A,row',B,R,S,ms',M1,M2,rfl,rfl,f3,f4,rfl,f6,f7,f8,f9⟩:=hR.at hi
  have hA:A.flatten.length=i*sz:=by rw[f8.len.2,f4]
  have hrow:row'=row:=by
   rw[hg,jhs,jcb] at e2
   obtain⟨_,h2⟩:=(ja8 _).1 e2
   rw[h2,f2g,f0t,List.drop_append_of_le_length (f2t hA.symm),f2w (f2t hA),f1m,List.take_append_of_le_length oa,←f6,f2v]
  subst hrow
  refine⟨b,row',ms',M1,M2,(A++row'::B).flatten,e1,hg,e2,f6,f7,rfl,fun {j v} hj=>⟨_,jy9 hA oa,fun {h' E' a' ms''} hg' hE' hkeep=>?_⟩⟩
  refine .inr ⟨se,b,A++(row'.set j v)::B,M1++(ms''++M2),se,hg',?_,rfl⟩
  rw[qm0 f4]
  exact(f8.imp (fun row a m hm=>hkeep row a m (fun n hn=>f08 _ (hm n hn)))).app (.cons (by simp[f6]) hE' (f9.imp (fun row a m hm=>hkeep row a m (fun n hn=>f04 _ (hm n hn)))))
end
def MRk (h:Hp) (p:Nat) (w:Ms) (n1 n2 n3:List Nat):Prop:=∃ a b k,h.get p=some (.arr [si w.m.1,si w.m.2,a,b,si w.cur,k,si w.all] tt.mas)/\Sl h tt.int 1 false EI a w.values n1/\Sl h tt.blk 3 false (EB tt h) b w.blocks n2/\Sl h tt.int 1 false EI k w.known n3/\(p::(n1++(n2++n3))).Nodup/\∀ n∈p::(n1++(n2++n3)),1<=n/\n<h.next
theorem MRk.mr {h:Hp} {p:Nat} {w:Ms} (k:MRk h p w n1 n2 n3):MR tt h p w (p::(n1++(n2++n3))):=by
 obtain⟨a,b,c,h1,h2,h3,h4,h5,h6⟩:=k
 exact⟨⟨a,b,c,n1,n2,n3,h1,h2,h3,h4,rfl⟩,h5,h6⟩
theorem MRk.keep {h h':Hp} {p:Nat} {w:Ms} (k:MRk h p w n1 n2 n3) (hk:∀ n∈p::(n1++(n2++n3)),h'.get n=h.get n) (hn:h.next<=h'.next):MRk h' p w n1 n2 n3:=by
 obtain⟨a,b,c,h1,h2,h3,h4,h5,h6⟩:=k
 exact⟨a,b,c,(hk p se).trans h1,h2.keep (fun n hn=>hk n (by simp[hn])),h3.imp (fun n hn=>hk n (by simp[hn])) (fun row a ms hm k=>k.keep (fun n hn=>hk n (by simp[hm n hn]))),h4.keep (fun n hn=>hk n (by simp[hn])),h5,fun n hm=>⟨(h6 n hm).1,f0o (h6 n hm).2 hn⟩⟩
theorem MRk.mk_put {h:Hp} {p:Nat} {w':Ms} {a b k:SV} (ok:Ok h) (h1:Sl h tt.int 1 false EI a w'.values n1) (h2:Sl h tt.blk 3 false (EB tt h) b w'.blocks n2) (h3:Sl h tt.int 1 false EI k w'.known n3) (hd:(p::(n1++(n2++n3))).Nodup) (lt:∀ n∈p::(n1++(n2++n3)),1<=n/\n<h.next) :
 MRk (h.put p (some (.arr [si w'.m.1,si w'.m.2,a,b,si w'.cur,k,si w'.all] tt.mas))) p w' n1 n2 n3:=by
 have hp:=(lt p se).1
 have kp:∀ n∈n1++(n2++n3),(h.put p (some (.arr [si w'.m.1,si w'.m.2,a,b,si w'.cur,k,si w'.all] tt.mas))).get n=h.get n:=fun n hn=>by
  rw[jak ok hp,if_neg (fun(e:n=p)=>(f0r.1 hd).1 (e▸hn))]
 refine⟨a,b,k,by rw[jak ok hp,if_pos rfl],h1.keep (fun n hn=>kp n (by simp[hn])),h2.imp (fun n hn=>kp n (by simp[hn])) (fun row a ms hm k=>k.keep (fun n hn=>kp n (by simp[hm n hn]))),h3.keep (fun n hn=>kp n (by simp[hn])),hd,fun n hn=>?_⟩
 rw[Hp.next_put];exact lt n hn
theorem j88 {h:Hp} {p:Nat} {w:Ms} {a b k:SV} (ok:Ok h) (hg:h.get p=some (.arr [si w.m.1,si w.m.2,a,b,si w.cur,k,si w.all] tt.mas)) (hv:Sl h tt.int 1 false EI a w.values n1) (hb:Sl h tt.blk 3 false (EB tt h) b w.blocks n2) (hk:Sl h tt.int 1 false EI k w.known n3)
 (hd:(p::(n1++(n2++n3))).Nodup) (hlt:∀ n∈p::(n1++(n2++n3)),1<=n/\n<h.next) (v:Nat) (hn:w.known.length<=100000) :
 ∃ h2,jmr (h.push (.arr [si v] 3)) 3 1 8 (.s k) (.s (.slice h.next 0 1 1 true 1))=some (.s (.slice (h.next+1) 0 (w.known.length+1) (w.known.length+1) false 1),h2)/\Ok h2/\h2.next=h.next+2/\h2.get p=some (.arr [si w.m.1,si w.m.2,a,b,si w.cur,k,si w.all] tt.mas) /\
  ∃ hj,hj=h2.put p (some (.arr [si w.m.1,si w.m.2,a,b,si w.cur,.slice (h.next+1) 0 (w.known.length+1) (w.known.length+1) false 1,si w.all] tt.mas))/\MRk hj p { w with known:=w.known++[v] } n1 n2 ((h.next+1)::(n3.tail++[]))/\Mv h hj (p::(n1++(n2++n3))) (p::(n1++(n2++((h.next+1)::(n3.tail++[])))))/\(∀ n,n<h.next->n≠p->n∉n3->hj.get n=h.get n):=by
 have hp:=hlt p se
 have hdt:=(f0r.1 hd).2
 have hd1:=f0m.1 hdt
 have hd2:=f0m.1 hd1.2.1
 obtain⟨h2,e2,ok2,nx2,kp2,kt2,sl2⟩:=hk.app1 (bytes:=8) (row:=[si v]) (a:=v) (ms:=[]) ok (fun n hn=>hlt n (by simp[hn])) rfl ⟨rfl,rfl⟩ oa oa
 have hp3:p∉n3:=fun hn=>(f0r.1 hd).1 (by simp[hn])
 have hf:h.next+1∉n3:=fun hn=>by have:=(hlt (h.next+1) (by simp[hn])).2;omega
 have k1:∀ n∈n1,h2.get n=h.get n:=fun n hn=>kp2 n (hlt n (by simp[hn])).2 (fun h1=>hd1.2.2 n hn n (by simp[h1]) rfl)
 have k2:∀ n∈n2,h2.get n=h.get n:=fun n hn=>kp2 n (hlt n (by simp[hn])).2 (fun h1=>hd2.2.2 n hn n h1 rfl)
 have nd':(n1++(n2++((h.next+1)::(n3.tail++[])))).Nodup:=by
  have:=jcd (A:=n1++n2) (B:=[]) (ns:=n3) (N:=h.next) (by simpa using hdt) (fun n hn=>(hlt n (by simp at hn ⊢;exact .inr hn)).2) (jcr hd2.2.1 .nil se hf se) (fun n hn=>by
   rcases f0f.1 hn with rfl | hn
   .exact .inr oa
   .exact .inl (f0j (by simpa using hn)))
  simpa[f0g] using this
 have u:=MR.upd (t:=tt) (w':={ w with known:=w.known++[v] }) hd hlt ok.pos ok2 oa (hv.keep k1) (hb.imp k2 (fun row a ms hm k=>k.keep (fun n hn=>k2 n (hm n hn)))) (sl2 (fun _ _ _ _ h=>h)) nd' (fun n hn=>by
  rcases f0e.1 hn with hn | hn
  .exact ⟨.inl (by simp[hn]),by have:=(hlt n (by simp[hn])).2;omega⟩
  .rcases f0e.1 hn with hn | hn
   .exact ⟨.inl (by simp[hn]),by have:=(hlt n (by simp[hn])).2;omega⟩
   .rcases f0f.1 hn with rfl | hn
    .exact ⟨.inr oa,oa⟩
    .have:=f0j (by simpa using hn)
     exact⟨.inl (by simp[this]),by have:=(hlt n (by simp[this])).2;omega⟩) (fun n h1 h3=>kp2 n h1 (fun h4=>h3 (by simp[h4])))
 have gp:∀ n,n≠p->(h2.put p (some (.arr [si w.m.1,si w.m.2,a,b,si w.cur,.slice (h.next+1) 0 (w.known.length+1) (w.known.length+1) false 1,si w.all] tt.mas))).get n=h2.get n:=fun n hn=>by rw[jak ok2 hp.1,if_neg hn]
 refine⟨h2,e2,ok2,nx2,(kp2 p hp.2 hp3).trans hg,_,rfl,?_,u.2,fun n h1 h3 h4=>(gp n h3).trans (kp2 n h1 h4)⟩
 have np:∀ n∈n1++(n2++((h.next+1)::(n3.tail++[]))),n≠p:=fun n hn e=>(f0r.1 u.1.nodup).1 (e▸hn)
 exact⟨a,b,_,by rw[jak ok2 hp.1,if_pos rfl],(hv.keep k1).keep (fun n hn=>gp n (np n (by simp[hn]))),(hb.imp (h':=h2.put p _) (fun n hn=>(gp n (np n (by simp[hn]))).trans (k2 n hn)) (fun row a ms hm k=>k.keep (fun n hn=>(gp n (np n (by simp[hm n hn]))).trans (k2 n (hm n hn))))),(sl2 (E':=EI) (fun _ _ _ _ h=>h)).keep (fun n hn=>gp n (np n (f04 _ (f04 _ hn)))),u.1.nodup,u.1.lt⟩
section
variable {F:Fns} (B:Base F)
include B
theorem js0 {h:Hp} {p:Nat} {ns:List Nat} {ops:List Ms.Opd} {nso:List Nat} {x1:AV}:∀ (rest done:List Ms.Opd) (_:done++rest=ops) {hi:Hp} {w:Ms} {n3:List Nat} (_:Ok hi) (_:MRk hi p w n1 n2 n3) (_:Mv h hi ns (p::(n1++(n2++n3)))) (_:Sl hi 80 5 false EO xo ops nso) (_:∀ n∈nso,n<hi.next/\n≠p/\n∉n3) (_:w.known.length+rest.length<=100000) (_:ops.length<=1000) {x2 x3 x5:AV}
 (hQ:∀ hj ns'' x2 x3 x5,Ok hj->MR tt hj p { w with known:=w.known++((rest.filter (fun o=>o.kind=2)).map (·.value)) } ns''->Mv h hj ns ns''->Q (.exit 0) (.mk [.s (.ptr p 0),x1,x2,x3,.s xo,x5,vi ops.length,vi ops.length,x8,x9,x10] hj)),
 W F jsv.loop (.mk [.s (.ptr p 0),x1,x2,x3,.s xo,x5,vi ops.length,vi done.length,x8,x9,x10] hi) Q
 | [],done,hdn,hi,w,n3,ok,mr,mv,so,lo,hn,hl,x2,x3,x5,hQ=>by
  rw[f06] at hdn
  subst hdn
  rw[jai]
  unfold jsv
  simp(disch:=go_num) only[go_sem,f0s]
  exact hQ hi _ _ _ _ ok (by simpa using mr.mr) mv
 | o::rest,done,hdn,hi,w,n3,ok,mr,mv,so,lo,hn,hl,x2,x3,x5,hQ=>by
  rw[jai]
  unfold jsv
  have hlen:done.length<ops.length:=by rw[←hdn];simp
  have hlt1:(done.length:Int)<ops.length:=oa
  have hget:ops[done.length]?=some o:=by rw[←hdn];simp
  obtain⟨ob1,orow,oms,oe1,oe2,oe3,⟨rfl,rfl⟩,oe5,oe6⟩:=so.at hget
  have hob:=lo ob1 oe6
  have mr0:=mr
  obtain⟨a,b,k,hg,hv,hb,hk,hd,hlt⟩:=mr
  have hp:=hlt p se
  obtain⟨hA,eA⟩:∃ hA,hA=(hi.push (AB.arr [SV.int IntKind.i64 0,SV.int IntKind.i64 0,SV.bool false,SV.int IntKind.i64 0,SV.int IntKind.i64 0] 80)).put hi.next (some (AB.arr [si ↑o.kind,si ↑o.value,SV.bool o.late,si ↑o.limit,si ↑o.n] 80)):=⟨_,rfl⟩
  have okA:Ok hA:=by rw[eA];exact jas (ja9 ok)
  have gA:∀ n,n<hi.next->hA.get n=hi.get n:=fun n hn=>by
   rw[eA,jak (ja9 ok) ok.pos,ja3 ok,if_neg oa,if_neg oa]
  have oA:hA.get hi.next=some (AB.arr [si ↑o.kind,si ↑o.value,SV.bool o.late,si ↑o.limit,si ↑o.n] 80):=by
   rw[eA,jak (ja9 ok) ok.pos,if_pos rfl]
  have nA:hA.next=hi.next+1:=by rw[eA,Hp.next_put,Hp.next_push]
  have lt':=fun n hn=>(hlt n hn).2
  have mvA:Mv h hA ns (p::(n1++(n2++n3))):=⟨okA,by have:=mv.nx;omega,mv.new,fun n h1 h2=>(gA n (by have:=mv.nx;omega)).trans (mv.keep n h1 h2)⟩
  have mrA:=mr0.keep (h':=hA) (fun n hn=>gA n (lt' n hn)) oa
  have soA:=so.keep (h':=hA) (fun n hn=>gA n (lo n hn).1)
  have hdn':(done++[o])++rest=ops:=by rw[←hdn];simp
  have hlen2:(done++[o]).length=done.length+1:=se
  have hsucc:((done.length:Int)+1)=(((done++[o]).length:Nat):Int):=by rw[hlen2];omega
  by_cases hk2:(o.kind:Int)=2
  .have hkA:hA.get p=_:=(gA p hp.2).trans hg
   obtain⟨h2,e2,ok2,nx2,hp2,hj0,ej,mr2,mv2,kp2⟩:=j88 okA hkA (hv.keep (fun n hn=>gA n (lt' n (by simp[hn])))) (hb.imp (fun n hn=>gA n (lt' n (by simp[hn]))) (fun row a ms hm k=>k.keep (fun n hn=>gA n (lt' n (by simp[hm n hn]))))) (hk.keep (fun n hn=>gA n (lt' n (by simp[hn])))) hd (fun n hn=>⟨(hlt n hn).1,by have:=lt' n hn;omega⟩) o.value (by simp only[f0i] at hn;omega)
   have e2':jmr (((hi.push (AB.arr [SV.int IntKind.i64 0,SV.int IntKind.i64 0,SV.bool false,SV.int IntKind.i64 0,SV.int IntKind.i64 0] 80)).put hi.next (some (AB.arr [si ↑o.kind,si ↑o.value,SV.bool o.late,si ↑o.limit,si ↑o.n] 80))).push (AB.arr [SV.int IntKind.i64 ↑o.value] 3)) 3 1 8 (AV.s k) (AV.s (SV.slice (hi.next+1) 0 1 1 true 1))=some (.s (.slice (hi.next+2) 0 (w.known.length+1) (w.known.length+1) false 1),h2):=by
    rw[←eA];rw[nA] at e2;exact e2
   simp(disch:=go_num) only[go_sem,jj9,jet,jeu,jm6,jm7,and_false,false_and,if_false,hlt1,oe1,oe2,jbc,eq_true hk2,hg,e2',hp2,jad,hsucc]
   rw[nA] at mr2 mv2 ej
   rw[←ej]
   have mn2:=mv2.nx
   refine js0 rest (done++[o]) hdn' mv2.ok mr2 (mvA.trans mv2) (soA.keep (fun n hn=>kp2 n (by have:=(lo n hn).1;omega) (lo n hn).2.1 (lo n hn).2.2)) (fun n hn=>⟨by have:=(lo n hn).1;omega,(lo n hn).2.1,fun h1=>?_⟩) (by simp at hn ⊢;omega) hl (fun hj ns'' y2 y3 y5 okj mrj mvj=>hQ hj ns'' y2 y3 y5 okj ?_ mvj)
   .rcases f0f.1 h1 with h1 | h1
    .have:=(lo n hn).1;omega
    .exact (lo n hn).2.2 (f0j (by simpa using h1))
   .have hk3:o.kind=2:=oa
    rw[List.filter_cons_of_pos (by simpa using hk3),f0u]
    simpa[f0g] using mrj
  .simp (disch:=go_num) only[go_sem,jj9,jet,jeu,jm6,jm7,and_false,false_and,if_false,hlt1,oe1,oe2,jbc,hk2,jad,hsucc]
   rw[←eA]
   refine js0 rest (done++[o]) hdn' okA mrA mvA soA (fun n hn=>⟨by have:=(lo n hn).1;omega,(lo n hn).2⟩) (by simp at hn;omega) hl (fun hj ns'' y2 y3 y5 okj mrj mvj=>hQ hj ns'' y2 y3 y5 okj ?_ mvj)
   have hk3:¬ o.kind=2:=oa
   rw[List.filter_cons_of_neg (by simpa using hk3)]
   exact mrj
end
theorem j89 {p:Pc} {flags uses:Nat}:∀ (d i:Nat) (x:Iw×Nat×Ms),∃ cs:List Nat,cs.length=d/\(∀ c∈cs,c<2)/\(jeb p flags uses d i x).2.2={ x.2.2 with values:=x.2.2.values++cs }
 | 0,i,x=>⟨[],rfl,fun c hc=>by simp at hc,by simp[jeb]⟩
 | d+1,i,x=>by
  have e:(jfm p flags uses i x).2.2={ x.2.2 with values:=x.2.2.values++[jgk p i] }:=by unfold jfm;simp only;split<;>rfl
  obtain⟨cs,h1,h2,h3⟩:=j89 (p:=p) (flags:=flags) (uses:=uses) d (i+1) (jfm p flags uses i x)
  refine⟨jgk p i::cs,by simp[h1],fun c hc=>?_,?_⟩
  .rcases f0f.1 hc with rfl | hc
   .exact jsz
   .exact h2 c hc
  .show (jeb p flags uses d (i+1) (jfm p flags uses i x)).2.2=_
   rw[h3,e];simp
theorem jkc (w:Ms) (p:Pc):∃ cs:List Nat,cs.length<=2/\(∀ c∈cs,c<2)/\(ja4 w p).2={ w with values:=w.values++cs }:=by
 unfold ja4
 simp only
 obtain⟨cs,h1,h2,h3⟩:=j89 (p:=p) (flags:=pk p.flags (2 ^ 30)) (uses:=(jfg w p (pk p.flags (2 ^ 30)) (if w.known=[] then 0 else pk p.flags (2 ^ 30) % 4) 0 ⟨[],pk p.limits (2 ^ 40),(0,0),(0,0)⟩).ops.length) (1+pk p.flags (2 ^ 30) / 2 ^ 8 % 2) 0 (jfg w p (pk p.flags (2 ^ 30)) (if w.known=[] then 0 else pk p.flags (2 ^ 30) % 4) 0 ⟨[],pk p.limits (2 ^ 40),(0,0),(0,0)⟩,(jfg w p (pk p.flags (2 ^ 30)) (if w.known=[] then 0 else pk p.flags (2 ^ 30) % 4) 0 ⟨[],pk p.limits (2 ^ 40),(0,0),(0,0)⟩).ops.length,w)
 exact⟨cs,oa,h2,h3⟩
theorem jwc {p:Pc} {flags uses:Nat}:∀ (d i:Nat) (x:Iw×Nat×Ms),x.2.1<=uses->(jeb p flags uses d i x).1.ops.length=x.1.ops.length+d/\((∀ o∈x.1.ops,o.value<x.2.2.values.length)->∀ o∈(jeb p flags uses d i x).1.ops,o.value<(jeb p flags uses d i x).2.2.values.length)
 | 0,i,x,_=>⟨rfl,id⟩
 | d+1,i,x,h=>by
  obtain⟨f1,f2,f3,f4⟩:=jrs (p:=p) (flags:=flags) (i:=i) h
  obtain⟨g1,g2⟩:=jwc (p:=p) (flags:=flags) (uses:=uses) d (i+1) (jfm p flags uses i x) f1
  exact⟨by show(jeb p flags uses d (i+1) (jfm p flags uses i x)).1.ops.length=_;omega,fun hx=>g2 (f4 hx)⟩
theorem jrv {w:Ms} {N:Nat} (wk:Wok w N) (p:Pc):(ja4 w p).1.ops.length<=5/\∀ o∈(ja4 w p).1.ops,o.value<(ja4 w p).2.values.length:=by
 unfold ja4
 simp only
 have hd:(if w.known=[] then 0 else pk p.flags (2 ^ 30) % 4)<=3:=by split<;>omega
 have h1:=jje (p:=p) (flags:=pk p.flags (2 ^ 30)) wk.known (if w.known=[] then 0 else pk p.flags (2 ^ 30) % 4) 0 ⟨[],pk p.limits (2 ^ 40),(0,0),(0,0)⟩ (by
  by_cases h0:w.known=[]
  .right;rw[if_pos h0]
  .exact .inl h0) (fun o ho=>by simp at ho)
 generalize jfg w p (pk p.flags (2 ^ 30)) (if w.known=[] then 0 else pk p.flags (2 ^ 30) % 4) 0 ⟨[],pk p.limits (2 ^ 40),(0,0),(0,0)⟩=s at *
 obtain⟨g1,g2⟩:=jwc (p:=p) (flags:=pk p.flags (2 ^ 30)) (uses:=s.ops.length) (1+pk p.flags (2 ^ 30) / 2 ^ 8 % 2) 0 (s,s.ops.length,w) (f0h _)
 refine⟨?_,g2 h1.2⟩
 rw[g1]
 have:=h1.1
 simp only[f00] at this ⊢
 omega
theorem Wok.instr {w:Ms} {N:Nat} (wk:Wok w N) (p:Pc):Wok (ja4 w p).2 (N+2):=by
 obtain⟨cs,h1,h2,h3⟩:=jkc w p
 rw[h3]
 exact⟨wk.m1,wk.m2,fun x hx=>by
  rcases f0e.1 hx with h | h
  .exact wk.vals x h
  .exact h2 x h,fun v hv=>by have:=wk.known v hv;simp;omega,wk.cur,by have:=wk.nv;simp;omega,f02 wk.nb oa,f02 wk.nk oa,fun b hb=>by have:=wk.ni b hb;omega,f02 wk.na oa⟩
theorem Wok.lay {w:Ms} {N:Nat} (wk:Wok w N) (p:Pc):Wok (jcp w p) (N+10):=by
 have k:=wk.instr p
 have ho:=jrv wk p
 unfold jcp
 have hdl:(jdb (ja4 w p).1).length<=5:=by
  unfold jdb
  rw[f03]
  exact f02 (List.length_filter_le _ _) ho.1
 have hdv:∀ v∈jdb (ja4 w p).1,v<(ja4 w p).2.values.length:=fun v hv=>by
  unfold jdb at hv
  obtain⟨o,h1,rfl⟩:=f1j.1 hv
  exact ho.2 o (List.mem_filter.1 h1).1
 generalize ja4 w p=y at *
 refine⟨k.m1,k.m2,k.vals,fun v hv=>?_,?_,by have:=k.nv;simp only;omega,?_,?_,fun b hb=>?_,?_⟩
 .rcases f0e.1 hv with h | h
  .exact k.known v h
  .exact hdv v h
 .show y.2.cur<(jax y.2.blocks y.2.cur y.1).length
  unfold jax;rw[f1d];exact k.cur
 .show (jax y.2.blocks y.2.cur y.1).length<=_
  unfold jax;rw[f1d];have:=k.nb;omega
 .have:=k.nk;simp only[f0d];omega
 .have hc:=f0b k.cur
  have hb':b∈jax y.2.blocks y.2.cur y.1:=hb
  unfold jax at hb'
  rw[jd3 hc] at hb'
  rcases List.mem_or_eq_of_mem_set hb' with h | rfl
  .have:=k.ni b h;omega
  .have:=k.ni _ (f23 k.cur)
   simp only[f0d,f2c];omega
 .have:=k.na;simp only;omega
theorem jgz {A ns B:List Nat} (hd:(A++(ns++B)).Nodup) (h':ns'.Nodup) (hn:∀ n∈ns',n∈ns∨n∉A++(ns++B)):(A++(ns'++B)).Nodup:=by
 rw[f0m,f0m] at hd
 obtain⟨d1,⟨d2,d3,d4⟩,d5⟩:=hd
 rw[f0m,f0m]
 refine⟨d1,⟨h',d3,fun a ha b hb e=>?_⟩,fun a ha b hb e=>?_⟩
 .subst e
  rcases hn a ha with h1 | h1
  .exact d4 a h1 a hb rfl
  .exact h1 (by simp[hb])
 .subst e
  rcases f0e.1 hb with hb | hb
  .rcases hn a hb with h1 | h1
   .exact d5 a ha a (by simp[h1]) rfl
   .exact h1 (by simp[ha])
  .exact d5 a ha a (by simp[hb]) rfl
section
variable {F:Fns} (B:Base F)
include B
theorem qhx {h:Hp} {p:Nat} {w:Ms} {ns:List Nat} (ok:Ok h) (r:MR tt h p w ns) {N:Nat} (wk:Wok w N) (hN:N<=80000) (pc:Pc) (pin:Pin pc) :
 WC F 30 [.s (.ptr p 0),.agg (jb8 pc)] h (fun v h'=>v=.tup []/\∃ ns',MR tt h' p (jcp w pc) ns'/\Mv h h' ns ns'):=by
 refine jaz (B.no 30 se _ _) ((B.T _).trans qzq) rfl ?_
 unfold qhv
 simp(disch:=go_num) only[go_sem,jb8]
 have g1:∀ n,n<h.next->(h.push (AB.arr (jb8 pc) 90)).get n=h.get n:=fun n hn=>by rw[ja3 ok,if_neg oa]
 have r1:=r.keep (h':=h.push (AB.arr (jb8 pc) 90)) (fun n hn=>g1 n (r.lt n hn).2) (by rw[Hp.next_push];omega)
 refine WC.imp (j87 B (ja9 ok) r1 wk oa pc pin) ?_
 rintro _ h2 ⟨a,b,n1,n2,ns2,rfl,sa,sb,mr2,mv2,nd12,lo12⟩
 obtain⟨cs,_,_,hw2⟩:=jkc w pc
 have wk2:=wk.instr pc
 have hops:=(jrv wk pc).1
 have hcur2:(ja4 w pc).2.cur=w.cur:=by rw[hw2]
 have hblk2:(ja4 w pc).2.blocks=w.blocks:=by rw[hw2]
 have hlay:jcp w pc={ (ja4 w pc).2 with blocks:=jax (ja4 w pc).2.blocks (ja4 w pc).2.cur (ja4 w pc).1,all:=(ja4 w pc).2.all+1,known:=(ja4 w pc).2.known++jdb (ja4 w pc).1 }:=rfl
 rw[hlay]
 clear hlay hw2 hcur2 hblk2
 generalize ja4 w pc=y at *
 obtain⟨x,w2⟩:=y
 simp only at *
 have mv1:Mv h h2 ns ns2:=by
  have hx:=mv2.nx
  rw[Hp.next_push] at hx
  exact⟨mv2.ok,oa,fun n hn=>by
   rcases mv2.new n hn with h1 | h1
   .exact .inl h1
   .rw [Hp.next_push] at h1;exact .inr oa,fun n h1 h3=>(mv2.keep n (by rw[Hp.next_push];omega) h3).trans (g1 n h1)⟩
 have hgN:h2.get h.next=some (AB.arr (jb8 pc) 90):=by
  rw[mv2.keep h.next (by rw[Hp.next_push];omega) (fun h1=>by have:=(r.lt _ h1).2;omega),ja3 ok,if_pos rfl]
 have ok2:=mv2.ok
 have mn2:=mv2.nx
 rw[Hp.next_push] at mn2
 have mr0:=mr2
 obtain⟨⟨av,bv,kv,m1,m2,m3,hg,hv,hb,hk,rfl⟩,hd,hlt⟩:=mr2
 have hp:=hlt p se
 obtain⟨blk,hblk⟩:∃ b,w2.blocks[w2.cur]?=some b:=⟨_,f0b wk2.cur⟩
 have hni:=wk2.ni blk (f0c hblk)
 obtain⟨bb,row,ms,M1,M2,cells,ix,hbg,hrd,hrl,⟨pp,ia,ee,na,nb,nc,rfl,sp,sI,sE,rfl⟩,rfl,hset⟩:=hb.upd hblk
 have rd1:=jd1 (j:=1) (c:=ia) hrd rfl
 have hbb:=hlt bb se
 obtain⟨cells',hst,hset'⟩:=hset (j:=1) (v:=SV.slice (h2.next+2) 0 (blk.instrs.length+1) (blk.instrs.length+1) false 3) oa
 obtain⟨h3,e3⟩:∃ h3,h3=(h2.push (AB.arr [SV.int IntKind.i64 0,SV.nilSlice,SV.nilSlice] 62)).put h2.next (some (AB.arr [si ↑x.op,a,b] 62)):=⟨_,rfl⟩
 have ok3:Ok h3:=by rw[e3];exact jas (ja9 ok2)
 have g3:∀ n,n<h2.next->h3.get n=h2.get n:=fun n hn=>by
  rw[e3,jak (ja9 ok2) ok2.pos,ja3 ok2,if_neg oa,if_neg oa]
 have o3:h3.get h2.next=some (AB.arr [si ↑x.op,a,b] 62):=by
  rw[e3,jak (ja9 ok2) ok2.pos,if_pos rfl]
 have n3:h3.next=h2.next+1:=by rw[e3,Hp.next_put,Hp.next_push]
 have lt':=fun n hn=>(hlt n hn).2
 have sub_nb:∀ n∈nb,n∈p::(m1++(bb::(M1++(na++(nb++nc)++M2))++m3)):=fun n hn=>by simp[hn]
 have hdt:=(f0r.1 hd).2
 have e0:m1++(bb::(M1++(na++(nb++nc)++M2))++m3)=(m1++(bb::(M1++na)))++(nb++(nc++(M2++m3))):=by simp[f0g]
 have hpb:p≠bb:=fun e=>(f0r.1 hd).1 (by simp[e])
 have hpn:p∉nb:=fun e=>(f0r.1 hd).1 (by simp[e])
 rw[e0] at hdt
 have hd3:=f0m.1 hdt
 have hdnb:=(f0m.1 hd3.2.1).1
 have hbn:bb∉nb:=fun e=>hd3.2.2 bb se bb (by simp[e]) rfl
 have sI3:Sl h3 tt.ins 3 false (EX tt h3) ia blk.instrs nb:=sI.imp (fun n hn=>g3 n (lt' n (sub_nb n hn))) (fun row a m hm k=>k.keep (fun n hn=>g3 n (lt' n (sub_nb n (hm n hn)))))
 have l12:∀ n∈n1++n2,n<h2.next:=fun n hn=>(lo12 n hn).2.1
 obtain⟨h4,e4,ok4,n4,kp4,kt4,sl4⟩:=sI3.app1 (bytes:=56) (row:=[si ↑x.op,a,b]) (a:=x) (ms:=n1++n2) ok3 (fun n hn=>by have:=hlt n (sub_nb n hn);omega) rfl ⟨a,b,n1,n2,rfl,sa.keep (fun n hn=>g3 n (l12 n (by simp[hn]))),sb.keep (fun n hn=>g3 n (l12 n (by simp[hn]))),rfl⟩ oa oa
 have e4':jmr (((h2.push (AB.arr [SV.int IntKind.i64 0,SV.nilSlice,SV.nilSlice] 62)).put h2.next (some (AB.arr [si ↑x.op,a,b] 62))).push (AB.arr [si ↑x.op,a,b] 62)) 62 3 56 (AV.s ia) (AV.s (SV.slice (h2.next+1) 0 1 1 true 3))=some (AV.s (SV.slice (h2.next+2) 0 (blk.instrs.length+1) (blk.instrs.length+1) false 3),h4):=by
  rw[←e3];rw[n3] at e4;exact e4
 have k4:∀ n,n<h2.next->n∉nb->h4.get n=h2.get n:=fun n h1 h3'=>(kp4 n oa h3').trans (g3 n h1)
 have p4:h4.get p=_:=(k4 p hp.2 hpn).trans hg
 have b4:h4.get bb=_:=(k4 bb hbb.2 hbn).trans hbg
 have x4:h4.get h2.next=_:=(kp4 _ oa (fun h1=>by have:=lt' _ (sub_nb _ h1);omega)).trans o3
 have la:=sa.len
 have hwa:=wk2.na
 have hall:(w2.all:Int)+1=((w2.all+1:Nat):Int):=oa
 simp(disch:=go_num) only[go_sem,jj9,jet,jeu,jm6,jm7,and_false,false_and,if_false,hg,ix,rd1,e4',b4,hst,p4,x4,jad,la,hall]
 obtain⟨h5,e5⟩:∃ h5,h5=h4.put bb (some (AB.arr cells' tt.blk)):=⟨_,rfl⟩
 rw[←e5]
 have ok5:Ok h5:=by rw[e5];exact jas ok4
 have g5:∀ n,n≠bb->h5.get n=h4.get n:=fun n hn=>by rw[e5,jak ok4 hbb.1,if_neg hn]
 have b5:h5.get bb=some (AB.arr cells' tt.blk):=by rw[e5,jak ok4 hbb.1,if_pos rfl]
 have n5:h5.next=h2.next+3:=by rw[e5,Hp.next_put,n4,n3]
 clear e5 e3
 have k5:∀ n,n<h2.next->n∉nb->n≠bb->h5.get n=h2.get n:=fun n h1 h3' h4'=>(g5 n h4').trans (k4 n h1 h3')
 have ndl:(m1++(bb::(M1++(na++(nb++nc)++M2))++m3)).Nodup:=(f0r.1 hd).2
 have q12:∀ n∈n1++n2,n∉nb/\n≠bb:=fun n hn=>⟨fun h1=>(lo12 n hn).2.2 (sub_nb n h1),fun h1=>(lo12 n hn).2.2 (by simp[h1])⟩
 have qA:∀ n∈m1++(bb::(M1++na)),n∉nb:=fun n hn h1=>hd3.2.2 n hn n (by simp[h1]) rfl
 have hd4:=f0m.1 hd3.2.1
 have qB:∀ n∈nc++(M2++m3),n∉nb:=fun n hn h1=>hd4.2.2 n h1 n hn rfl
 have hd5:=f0m.1 hd3.1
 have hd6:=f0r.1 hd5.2.1
 have b1:∀ n∈m1,n≠bb:=fun n hn e=>hd5.2.2 n hn bb se e
 have b2:∀ n∈M1++na,n≠bb:=fun n hn e=>hd6.1 (e▸hn)
 have b3:∀ n∈nb++(nc++(M2++m3)),n≠bb:=fun n hn e=>hd3.2.2 bb se n hn e.symm
 have K:∀ n,n∈m1∨n∈M1∨n∈na∨n∈nc∨n∈M2∨n∈m3->h5.get n=h2.get n:=fun n hn=>by
  refine k5 n (lt' n ?_) ?_ ?_
  .rcases hn with h | h | h | h | h | h<;>simp[h]
  .rcases hn with h | h | h | h | h | h
   .exact qA n (by simp[h])
   .exact qA n (by simp[h])
   .exact qA n (by simp[h])
   .exact qB n (by simp[h])
   .exact qB n (by simp[h])
   .exact qB n (by simp[h])
  .rcases hn with h | h | h | h | h | h
   .exact b1 n h
   .exact b2 n (by simp[h])
   .exact b2 n (by simp[h])
   .exact b3 n (by simp[h])
   .exact b3 n (by simp[h])
   .exact b3 n (by simp[h])
 have T:∀ n∈nb.tail,h5.get n=h3.get n:=fun n hn=>(g5 n (b3 n (by simp[f0j hn]))).trans (kt4 n hn hdnb)
 have X12:∀ n∈n1++n2,h5.get n=h3.get n:=fun n hn=>(k5 n (l12 n hn) (q12 n hn).1 (q12 n hn).2).trans (g3 n (l12 n hn)).symm
 have sI5:Sl h5 tt.ins 3 false (EX tt h5) (SV.slice (h2.next+2) 0 (blk.instrs.length+1) (blk.instrs.length+1) false 3) (blk.instrs++[x]) ((h2.next+2)::(nb.tail++(n1++n2))):=by
  have:=sl4 (E':=EX tt h5) (fun row a m hm k=>k.keep (fun n hn=>by
   rcases hm n hn with h1 | h1
   .exact T n h1
   .exact X12 n h1))
  rw[n3] at this
  refine this.keep (fun n hn=>g5 n ?_)
  rcases f0f.1 hn with rfl | hn
  .omega
  .rcases f0e.1 hn with hn | hn
   .exact b3 n (by simp[f0j hn])
   .exact (q12 n hn).2
 have sB:=hset' (h':=h5) (E':=EB tt h5) (a':={ blk with instrs:=blk.instrs++[x] }) (ms':=na++(((h2.next+2)::(nb.tail++(n1++n2)))++nc)) b5 ⟨pp,_,ee,na,_,nc,rfl,sp.keep (fun n hn=>K n (by simp[hn])),sI5,sE.imp (fun n hn=>K n (by simp[hn])) (fun row a m hm k=>k.keep (fun n hn=>K n (by simp[hm n hn]))),rfl⟩ (fun row a m hm k=>k.keep (fun n hn=>by
  rcases f0e.1 (hm n hn) with h | h
  .exact K n (by simp[h])
  .exact K n (by simp[h])))
 have hmod:jax w2.blocks w2.cur x=w2.blocks.set w2.cur { blk with instrs:=blk.instrs++[x] }:=by
  unfold jax;exact jd3 hblk
 rw[←hmod] at sB
 have hnk:(h2.next+2)∉nb/\(h2.next+2)∉n1++n2:=⟨fun h1=>by have:=lt' _ (sub_nb _ h1);omega,fun h1=>by have:=l12 _ h1;omega⟩
 have nd5:((h2.next+2)::(nb.tail++(n1++n2))).Nodup:=jcr hdnb nd12 (fun n hn=>(q12 n hn).1) hnk.1 hnk.2
 have e6:m1++(bb::(M1++(na++(((h2.next+2)::(nb.tail++(n1++n2)))++nc)++M2))++m3)=(m1++(bb::(M1++na)))++(((h2.next+2)::(nb.tail++(n1++n2)))++(nc++(M2++m3))):=by simp[f0g]
 have old:∀ n,n∈(m1++(bb::(M1++na)))++(nb++(nc++(M2++m3)))->n∈p::(m1++(bb::(M1++(na++(nb++nc)++M2))++m3)):=fun n hn=>by
  rw[←e0] at hn;exact f01 _ hn
 have hn6:∀ n∈(m1++(bb::(M1++na)))++(((h2.next+2)::(nb.tail++(n1++n2)))++(nc++(M2++m3))),n∈p::(m1++(bb::(M1++(na++(nb++nc)++M2))++m3))∨n=h2.next+2∨n∈n1++n2:=fun n hn=>by
  rcases f0e.1 hn with hn | hn
  .exact .inl (old n (f08 _ hn))
  .rcases f0e.1 hn with hn | hn
   .rcases f0f.1 hn with rfl | hn
    .exact .inr (.inl rfl)
    .rcases f0e.1 hn with hn | hn
     .exact .inl (sub_nb n (f0j hn))
     .exact .inr (.inr hn)
   .exact .inl (old n (f04 _ (f04 _ hn)))
 have nd6:(p::(m1++(bb::(M1++(na++(((h2.next+2)::(nb.tail++(n1++n2)))++nc)++M2))++m3))).Nodup:=by
  rw[f0r]
  refine⟨fun h1=>?_,?_⟩
  .rw [e6] at h1
   rcases f0e.1 h1 with h1 | h1
   .exact (f0r.1 hd).1 (by rw[e0];exact f08 _ h1)
   .rcases f0e.1 h1 with h1 | h1
    .rcases f0f.1 h1 with h1 | h1
     .omega
     .rcases f0e.1 h1 with h1 | h1
      .exact hpn (f0j h1)
      .exact (lo12 p h1).2.2 se
    .exact (f0r.1 hd).1 (by rw[e0];exact f04 _ (f04 _ h1))
  .rw [e6]
   refine jgz hdt nd5 (fun n hn=>?_)
   rcases f0f.1 hn with rfl | hn
   .exact .inr (fun h1=>by have:=lt' _ (old _ h1);omega)
   .rcases f0e.1 hn with hn | hn
    .exact .inl (f0j hn)
    .exact .inr (fun h1=>(lo12 n hn).2.2 (old n h1))
 have lt6:∀ n∈p::(m1++(bb::(M1++(na++(((h2.next+2)::(nb.tail++(n1++n2)))++nc)++M2))++m3)),1<=n/\n<h5.next:=fun n hn=>by
  rcases f0f.1 hn with rfl | hn
  .omega
  .rw [e6] at hn
   rcases hn6 n hn with h1 | h1 | h1
   .have:=hlt n h1;omega
   .omega
   .have h3':=(lo12 n h1).1
    rw[Hp.next_push] at h3'
    have:=(lo12 n h1).2.1
    omega
 have mr6:=MRk.mk_put (w':={ w2 with blocks:=jax w2.blocks w2.cur x,all:=w2.all+1 }) ok5 (hv.keep (h':=h5) (fun n hn=>K n (by simp[hn]))) sB (hk.keep (fun n hn=>K n (by simp[hn]))) nd6 lt6
 have mv6:Mv h (h5.put p (some (.arr [si w2.m.1,si w2.m.2,av,bv,si w2.cur,kv,si (w2.all+1:Nat)] tt.mas))) ns (p::(m1++(bb::(M1++(na++(((h2.next+2)::(nb.tail++(n1++n2)))++nc)++M2))++m3))):=by
  refine⟨jas ok5,by rw[Hp.next_put];omega,fun n hn=>?_,fun n h1 h3'=>?_⟩
  .have hn':n∈p::(m1++(bb::(M1++(na++(nb++nc)++M2))++m3))∨n=h2.next+2∨n∈n1++n2:=by
    rcases f0f.1 hn with rfl | hn
    .exact .inl se
    .rw [e6] at hn;exact hn6 n hn
   rcases hn' with h1 | h1 | h1
   .exact mv1.new n h1
   .exact .inr oa
   .have:=(lo12 n h1).1
    rw[Hp.next_push] at this
    exact .inr oa
  .have hno:n∉p::(m1++(bb::(M1++(na++(nb++nc)++M2))++m3)):=fun h4'=>by
    rcases mv1.new n h4' with h5' | h5'
    .exact h3' h5'
    .omega
   have hp':n≠p:=fun e=>hno (by simp[e])
   rw[jak ok5 hp.1,if_neg hp']
   exact(k5 n oa (fun h4'=>hno (sub_nb n h4')) (fun e=>hno (by simp[e]))).trans (mv1.keep n h1 h3')
 have g6:∀ n,n≠p->(h5.put p (some (.arr [si w2.m.1,si w2.m.2,av,bv,si w2.cur,kv,si (w2.all+1:Nat)] tt.mas))).get n=h5.get n:=fun n hn=>by rw[jak ok5 hp.1,if_neg hn]
 have n6:(h5.put p (some (.arr [si w2.m.1,si w2.m.2,av,bv,si w2.cur,kv,si (w2.all+1:Nat)] tt.mas))).next=h5.next:=Hp.next_put _ _ _
 have l1:∀ n∈n1,n≠p:=fun n hn e=>(lo12 n (by simp[hn])).2.2 (by simp[e])
 have ok5':=ok5
 have l13:∀ n∈n1,n∉m3:=fun n hn h1=>(lo12 n (by simp[hn])).2.2 (by simp[h1])
 refine js0 B (ops:=x.ops) x.ops [] rfl (w:={ w2 with blocks:=jax w2.blocks w2.cur x,all:=w2.all+1 }) (jas ok5) mr6 mv6 (nso:=n1) ((sa.keep (fun n hn=>g3 n (l12 n (by simp[hn])))).keep (fun n hn=>(g6 n (l1 n hn)).trans (X12 n (by simp[hn])))) (fun n hn=>⟨by rw[n6,n5];have:=l12 n (by simp[hn]);omega,l1 n hn,l13 n hn⟩) (by have:=wk2.nk;show w2.known.length+x.ops.length<=100000;omega) oa (fun hj ns'' x2 x3 x5 okj mrj mvj=>?_)
 simp(disch:=go_num) only[go_sem]
 exact⟨ns'',mrj,mvj⟩
end
end
end Go.Proofs.YtkpadfebkaangaaGreatDoor.Ev
