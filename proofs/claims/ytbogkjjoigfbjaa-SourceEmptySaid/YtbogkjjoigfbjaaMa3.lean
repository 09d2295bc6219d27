/- The builders of functions: what is picked; values, limits. -/
import Derived.Test.YtbogkjjoigfbjaaCdM
import Derived.Test.YtbogkjjoigfbjaaEnc
namespace Go.Proofs.Ytbogkjjoigfbjaa.Ev
open Go Go.RowKit Go.Proofs.Ytbogkjjoigfbjaa.Ms
attribute [local go_sem] Int.reduceToNat reduceCtorEq Nat.reduceAdd Nat.reduceMul Nat.reduceEqDiff Int.reduceEq Int.reduceLT Int.reduceLE Int.reduceNeg Int.reduceAdd Int.reduceSub Int.reduceMul Int.reduceNe
attribute [local go_sem ↓] reduceIte
set_option linter.all false
set_option maxRecDepth 100000
variable {Q:AV->Hp->Prop} {f:FuncId} {h hi:Hp} {m n:Int} {vs:List AV} {ns' nso nss:List Nat} {w:Ms} {p:Nat} {pc:Pc} {xo xs:SV}
noncomputable def F0:Fns:=.mk T (fun _ _ _=>none)
theorem qbx {A:Nat->Int}:Env Try.prog A tys F0 where
 tys:=j7x
 mix:=(env (A:=A) (ps:=[]) (fun i m r h=>by simp at h)).mix
 fn:=(env (A:=A) (ps:=[]) (fun i m r h=>by simp at h)).fn
 ext:=fun f vs h v h' hx=>by cases hx
theorem qae:jf8 F0 f vs h=none:=rfl
theorem jtz {n:Int} {m:Nat} (hm:0<m):pick n (m:Int)=(pk n m:Int):=by
 have:=jsp n (m:Int) (by omega)
 unfold pk
 omega
theorem jwt {m:Nat} (hm:0<m):pk n m<m:=by
 have h1:=jsq n (m:Int) (by omega)
 have h2:=@jtz n m hm
 omega
theorem jwu (h1:-9223372036854775808<=n) (h2:n<=9223372036854775807) (hm:0<m) (hm2:m<=9223372036854775807) (hq:Q (vi (pick n m)) h):WC F0 12 [vi n,vi m] h Q:=by
 refine jf9 qae j15 rfl ?_
 unfold jre
 have h3:=jsp n m hm
 have h4:=jsq n m hm
 by_cases h0:n<0
 .simp (disch:=omega) only[jej,jp8,jix,jym,j41,jyn,j42,jsu,jta,jpe,jos,jyo,jyp,jtb,jo9,jtc,jpc,jpb,jpf,jpd,jl4,jpa,jyr,jtd,jpg,jph,jte,jpj,jpi,jpl,jpk,jl5,jfj,jl6,jfk,jl7,jdt,jl8,jtf,jhm,jfe,jif,jld,jgk,jle,jor,jff,jig,jlf,jy6,jy8,jl9,jit,jtg,jpm,jza,jti,jpo,jpq,jtk,jtm,jmb,jto,jy7,jy9,jma,jiu,jth,jpn,jzb,jtj,jpp,jpr,jtl,jtn,jmc,jtp,j9t,j9u,j9v,jsw,jou,jll,jlm,jln,jlp,jlq,jlr,jgm,jgn,j9w,j9x,jgo,j47,jls,jov,jii,jow,jij,j48,jsx,jyt,jyu,jyv,jox,jik,jil,jim,jin,jlt,joy,jlu,jlv,jio,jfg,jfh,jlw,jsy,jsz,j5z,jp9,jqa,jyw,jts,jiv,jlx,joz,jly,jzc,jmd,js0,js1,jzd,jps,jtq,jo0,jzh,jpv,jpu,jtr,jme,jpt,jo1,jlz,jo2,jl0,jip,jgp,jl1,jo3,jo4,jze,jmf,jo5,jjv,jiq,jl2,js4,js5,js6,jgu,jda,jgv,jyy,jyz,jy0,jy1,jy2,jy3,jzf,jmg,jzg,jmh,jzl,j5n,j5o,jzm,j5p,jtu,jtv,jp1,jtw,jml,jgs,jp2,jir,jc9,jis,jzn,jp3,j5g,jds,js7,jtt,jmi,jpw,j5k,j5l,jpx,jpy,jiw,jmk,jzi,jmj,jpz,jzk,jp0,js9,jy5,js8,jo8,jd8,jgq,jzy,j5v,j5t,j5u,Int.reduceToNat,Int.cast_ofNat_Int,Int.natCast_zero,Int.natCast_one,↓reduceIte,decide_eq_true_eq,decide_eq_false_iff_not,f0q,and_true,true_and,f2p,f1m,reduceCtorEq,decide_true,decide_false,Bool.not_true,Bool.not_false,f1g,f01,Option.some.injEq,Bool.true_eq_false,Nat.reduceAdd,Nat.reduceMul,Nat.reduceEqDiff,Int.reduceEq,Int.reduceLT,Int.reduceLE,Int.reduceNeg,Int.reduceAdd,Int.reduceSub,Int.reduceMul,Int.reduceNe,not_true_eq_false,not_false_eq_true,Hp.next_push,Hp.next_put,f2c,jp6,jp7,jgt,jhl,jl3,jmm,jmn,jp4,jp5,j5q,jzo,jzp,j5r,jzq,j5s,jzr,jzs,jzt,jzu,jzv,jro,jzw,jzx,jtx,jgr,jch,-jda,h0,jei,jb2,jo6]
  have e:(-(n+1)).tmod m=pick n m:=by
   unfold pick
   rw[if_pos h0]
   exact f15 (by omega)
  rw[if_neg (by omega),e,jei (by omega) (by omega)]
  simp only[go_sem]
  exact hq
 .simp (disch:=omega) only[jej,jp8,jix,jym,j41,jyn,j42,jsu,jta,jpe,jos,jyo,jyp,jtb,jo9,jtc,jpc,jpb,jpf,jpd,jl4,jpa,jyr,jtd,jpg,jph,jte,jpj,jpi,jpl,jpk,jl5,jfj,jl6,jfk,jl7,jdt,jl8,jtf,jhm,jfe,jif,jld,jgk,jle,jor,jff,jig,jlf,jy6,jy8,jl9,jit,jtg,jpm,jza,jti,jpo,jpq,jtk,jtm,jmb,jto,jy7,jy9,jma,jiu,jth,jpn,jzb,jtj,jpp,jpr,jtl,jtn,jmc,jtp,j9t,j9u,j9v,jsw,jou,jll,jlm,jln,jlp,jlq,jlr,jgm,jgn,j9w,j9x,jgo,j47,jls,jov,jii,jow,jij,j48,jsx,jyt,jyu,jyv,jox,jik,jil,jim,jin,jlt,joy,jlu,jlv,jio,jfg,jfh,jlw,jsy,jsz,j5z,jp9,jqa,jyw,jts,jiv,jlx,joz,jly,jzc,jmd,js0,js1,jzd,jps,jtq,jo0,jzh,jpv,jpu,jtr,jme,jpt,jo1,jlz,jo2,jl0,jip,jgp,jl1,jo3,jo4,jze,jmf,jo5,jjv,jiq,jl2,js4,js5,js6,jgu,jda,jgv,jyy,jyz,jy0,jy1,jy2,jy3,jzf,jmg,jzg,jmh,jzl,j5n,j5o,jzm,j5p,jtu,jtv,jp1,jtw,jml,jgs,jp2,jir,jc9,jis,jzn,jp3,j5g,jds,js7,jtt,jmi,jpw,j5k,j5l,jpx,jpy,jiw,jmk,jzi,jmj,jpz,jzk,jp0,js9,jy5,js8,jo8,jd8,jgq,jzy,j5v,j5t,j5u,Int.reduceToNat,Int.cast_ofNat_Int,Int.natCast_zero,Int.natCast_one,↓reduceIte,decide_eq_true_eq,decide_eq_false_iff_not,f0q,and_true,true_and,f2p,f1m,reduceCtorEq,decide_true,decide_false,Bool.not_true,Bool.not_false,f1g,f01,Option.some.injEq,Bool.true_eq_false,Nat.reduceAdd,Nat.reduceMul,Nat.reduceEqDiff,Int.reduceEq,Int.reduceLT,Int.reduceLE,Int.reduceNeg,Int.reduceAdd,Int.reduceSub,Int.reduceMul,Int.reduceNe,not_true_eq_false,not_false_eq_true,Hp.next_push,Hp.next_put,f2c,jp6,jp7,jgt,jhl,jl3,jmm,jmn,jp4,jp5,j5q,jzo,jzp,j5r,jzq,j5s,jzr,jzs,jzt,jzu,jzv,jro,jzw,jzx,jtx,jgr,jch,-jda,h0,jei,jb2,jo6]
  have e:n.tmod m=pick n m:=by
   unfold pick
   rw[if_neg h0]
   exact f15 (by omega)
  rw[if_neg (by omega),e,jei (by omega) (by omega)]
  simp only[go_sem]
  exact hq
theorem jt0 (h1:-9223372036854775808<=n) (h2:n<=9223372036854775807) (hm:0<m) (hm2:m<=9223372036854775807):jjm true F0 12 [vi n,vi m] (vi (pick n m)) :=
 jwu h1 h2 hm hm2 ⟨1,rfl⟩
def S1 (f:FuncId):Bool:=Nat.beq f 12
noncomputable def F1:Fns:=PX S1 F0
structure Base (F:Fns):Prop where
 T:∀ f,j4r F f=T f
 pk:∀ vs h,jf8 F 12 vs h=jf8 F1 12 vs h
 no:∀ f,f=34∨f=53∨f=37∨f=20∨f=35∨f=36->∀ vs h,jf8 F f vs h=none
theorem jb8 {F:Fns} {h':Hp} {u:AV} (hx:jf8 F f vs h=some (u,h')):WC F f vs h Q=Q u h':=by
 refine propext ⟨fun⟨n,v,h1,h2,h3⟩=>?_,j72 hx⟩
 cases F with
 | mk T X =>
 have h4:Option.rec (motive:=fun _=>R) _ (fun r=>some r) (X f vs h)=some (v,h1):=h2
 rw[show X f vs h=some (u,h') from hx] at h4
 cases h4
 exact h3
section
variable {F:Fns} (B:Base F)
include B
def tt:Tys7:=⟨3,81,109,78,52,36,57⟩
end
section
variable {F:Fns} (B:Base F)
include B
end
structure Pin (p:Pc):Prop where
 kind:-9223372036854775808<=p.kind/\p.kind<=9223372036854775807
 op:-9223372036854775808<=p.op/\p.op<=9223372036854775807
 a:-9223372036854775808<=p.a/\p.a<=9223372036854775807
 b:-9223372036854775808<=p.b/\p.b<=9223372036854775807
 c:-9223372036854775808<=p.c/\p.c<=9223372036854775807
 limits:-9223372036854775808<=p.limits/\p.limits<=9223372036854775807
 flags:-9223372036854775808<=p.flags/\p.flags<=9223372036854775807
structure Wok (w:Ms) (N:Nat):Prop where
 m1:2<=w.m.1/\w.m.1<=10
 m2:2<=w.m.2/\w.m.2<=10
 vals:∀ c∈w.values,c<2
 known:∀ v∈w.known,v<w.values.length
 cur:w.cur<w.blocks.length
 nv:w.values.length<=N
 nb:w.blocks.length<=N
 nk:w.known.length<=N
 ni:∀ b∈w.blocks,b.instrs.length<=N/\b.edges.length<=N/\b.params.length<=N
 na:w.all<=N
structure Iv (h hi:Hp) (p:Nat) (w:Ms) (ns ns':List Nat) (pc:Pc) (s:Iw) (sp:List (Nat×Nat)) (xo xs:SV) (nso nss:List Nat):Prop where
 ok:Ok hi
 nx:h.next+5<=hi.next
 mr:MR tt hi p w ns'
 mv:Mv h hi ns ns'
 hp:hi.get h.next=some (.arr (qbw pc) 60)
 hr:hi.get (h.next+1)=some (.arr [si 0,.nilSlice,.nilSlice] 78)
 hx:hi.get (h.next+2)=some (.arr [si (pk pc.op 256),xo,xs] 78)
 hn:hi.get (h.next+3)=some (.arr [si s.need.1,si s.need.2] 3)
 hf:hi.get (h.next+4)=some (.arr [si s.fixed.1,si s.fixed.2] 3)
 so:Sl hi 81 5 false EO xo s.ops nso
 ss:Sl hi 109 2 false ER xs sp nss
 lo:∀ n∈nso++nss,h.next+5<=n/\n<hi.next
 ln:∀ n∈ns',n<h.next∨h.next+5<=n
 nd:(ns'++(nso++nss)).Nodup
 b1:s.need.1<=10/\s.need.2<=10/\s.fixed.1<=s.need.1/\s.fixed.2<=s.need.2
 b2:s.limits<2 ^ 40
section
variable {F:Fns} (B:Base F)
include B
end
theorem Iv.upd {hj:Hp} {w':Ms} {ns ns2:List Nat} {s:Iw} {sp:List (Nat×Nat)} (I:Iv h hi p w ns ns' pc s sp xo xs nso nss) {need fixed:Nat×Nat} {lim:Nat} (okj:Ok hj) (mn:hi.next<=hj.next) (new:∀ n∈ns2,n∈ns'∨hi.next<=n) (mr:MR tt hj p w' ns2) (hn:hj.get (h.next+3)=some (.arr [si need.1,si need.2] 3)) (hf:hj.get (h.next+4)=some (.arr [si fixed.1,si fixed.2] 3))
 (kp:∀ n,n<hi.next->n∉ns'->n≠h.next+3->n≠h.next+4->(n<h.next∨n<=h.next+2∨n∈nso++nss)->hj.get n=hi.get n) (b1:need.1<=10/\need.2<=10/\fixed.1<=need.1/\fixed.2<=need.2) (b2:lim<2 ^ 40):Iv h hj p w' ns ns2 pc ⟨s.ops,lim,need,fixed⟩ sp xo xs nso nss:=by
 obtain⟨ok,nx,mr0,mv0,hp,hr,hx,hn0,hf0,so,ss,lo,ln,nd,_,_⟩:=I
 have hnd:=f0y.1 nd
 have dj:∀ n∈nso++nss,n∉ns':=fun n hn h1=>hnd.2.2 n h1 n hn rfl
 have e:∀ n,h.next<=n->n<=h.next+2->hj.get n=hi.get n:=fun n h1 h2=>kp n (by omega) (fun h3=>by have:=ln n h3;omega) (by omega) (by omega) (.inr (.inl h2))
 have e2:∀ n∈nso++nss,hj.get n=hi.get n:=fun n hn=>kp n (lo n hn).2 (dj n hn) (by have:=(lo n hn).1;omega) (by have:=(lo n hn).1;omega) (.inr (.inr hn))
 refine⟨okj,by omega,mr,⟨okj,by have:=mv0.nx;omega,fun n h1=>?_,fun n h1 h2=>?_⟩,(e _ (by omega) (by omega)).trans hp,(e _ (by omega) (by omega)).trans hr,(e _ (by omega) (by omega)).trans hx,hn,hf,so.keep (fun n hn=>e2 n (by simp[hn])),ss.keep (fun n hn=>e2 n (by simp[hn])),fun n h1=>⟨(lo n h1).1,by have:=(lo n h1).2;omega⟩,fun n h1=>?_,?_,b1,b2⟩
 .rcases new n h1 with h2 | h2
  .exact mv0.new n h2
  .exact .inr (by omega)
 .have h3:n∉ns':=fun h3=>by
   rcases mv0.new n h3 with h4 | h4
   .exact h2 h4
   .omega
  exact(kp n (by omega) h3 (by omega) (by omega) (.inl h1)).trans (mv0.keep n h1 h2)
 .rcases new n h1 with h2 | h2
  .exact ln n h2
  .exact .inr (by omega)
 .rw [f0y]
  refine⟨mr.nodup,hnd.2.1,fun a ha b hb e=>?_⟩
  subst e
  rcases new a ha with h2 | h2
  .exact dj a hb h2
  .have:=(lo a hb).2;omega
theorem Iv.app {ns:List Nat} {s:Iw} {sp:List (Nat×Nat)} (I:Iv h hi p w ns ns' pc s sp xo xs nso nss) (hl:s.ops.length<=100) (o:Ms.Opd) :
 ∃ h4 nso',jrm (hi.push (.arr (jm4 o) 81)) 81 5 40 (.s xo) (.s (.slice hi.next 0 1 1 true 5))=some (.s (.slice (hi.next+1) 0 (s.ops.length+1) (s.ops.length+1) false 5),h4)/\Ok h4/\h4.get (h.next+2)=some (.arr [si (pk pc.op 256),xo,xs] 78) /\
  Iv h (h4.put (h.next+2) (some (.arr [si (pk pc.op 256),.slice (hi.next+1) 0 (s.ops.length+1) (s.ops.length+1) false 5,xs] 78))) p w ns ns' pc { s with ops:=s.ops++[o] } sp (.slice (hi.next+1) 0 (s.ops.length+1) (s.ops.length+1) false 5) xs nso' nss:=by
 obtain⟨ok,nx,mr0,mv0,hp,hr,hx,hn0,hf0,so,ss,lo,ln,nd,b1,b2⟩:=I
 have hlo:∀ n∈nso,h.next+5<=n/\n<hi.next:=fun n hn=>lo n (by simp[hn])
 have hnd:=f0y.1 nd
 have hnd2:=f0y.1 hnd.2.1
 obtain⟨h4,e4,ok4,nx4,kp4,kt4,sl4⟩:=so.app1 (bytes:=40) (row:=jm4 o) (a:=o) (ms:=[]) ok (fun n hn=>by have:=hlo n hn;omega) rfl ⟨rfl,rfl⟩ (by omega) (by omega)
 have nsl:∀ n,n<h.next+5->n∉nso:=fun n h1 h2'=>by have:=(hlo n h2').1;omega
 refine⟨h4,(hi.next+1)::(nso.tail++[]),e4,ok4,(kp4 _ (by omega) (nsl _ (by omega))).trans hx,?_⟩
 have g5:∀ n,n≠h.next+2->(h4.put (h.next+2) (some (AB.arr [si ↑(pk pc.op 256),SV.slice (hi.next+1) 0 (s.ops.length+1) (s.ops.length+1) false 5,xs] 78))).get n=h4.get n:=fun n hn=>by
  rw[jbi ok4 (by omega),if_neg hn]
 have x5:(h4.put (h.next+2) (some (AB.arr [si ↑(pk pc.op 256),SV.slice (hi.next+1) 0 (s.ops.length+1) (s.ops.length+1) false 5,xs] 78))).get (h.next+2)=some (AB.arr [si ↑(pk pc.op 256),SV.slice (hi.next+1) 0 (s.ops.length+1) (s.ops.length+1) false 5,xs] 78):=by
  rw[jbi ok4 (by omega),if_pos rfl]
 have n5:(h4.put (h.next+2) (some (AB.arr [si ↑(pk pc.op 256),SV.slice (hi.next+1) 0 (s.ops.length+1) (s.ops.length+1) false 5,xs] 78))).next=hi.next+2:=by
  rw[Hp.next_put,nx4]
 have ok5:Ok (h4.put (h.next+2) (some (AB.arr [si ↑(pk pc.op 256),SV.slice (hi.next+1) 0 (s.ops.length+1) (s.ops.length+1) false 5,xs] 78))):=jd7 ok4
 generalize h4.put (h.next+2) (some (AB.arr [si ↑(pk pc.op 256),SV.slice (hi.next+1) 0 (s.ops.length+1) (s.ops.length+1) false 5,xs] 78))=h5 at g5 x5 n5 ok5
 have k5:∀ n,n<hi.next->n≠h.next+2->n∉nso->h5.get n=hi.get n:=fun n h1 h2' h5'=>(g5 n h2').trans (kp4 n h1 h5')
 have dj:∀ n∈ns',n∉nso:=fun n hn h1=>hnd.2.2 n hn n (by simp[h1]) rfl
 refine⟨ok5,by omega,mr0.keep (fun n hn=>k5 n (mr0.lt n hn).2 (by have:=ln n hn;omega) (dj n hn)) (by omega),⟨ok5,by have:=mv0.nx;omega,mv0.new,fun n h1 h2'=>(k5 n (by omega) (by omega) (nsl n (by omega))).trans (mv0.keep n h1 h2')⟩,
  (k5 _ (by omega) (by omega) (nsl _ (by omega))).trans hp,(k5 _ (by omega) (by omega) (nsl _ (by omega))).trans hr,x5,(k5 _ (by omega) (by omega) (nsl _ (by omega))).trans hn0,(k5 _ (by omega) (by omega) (nsl _ (by omega))).trans hf0,
  ?_,ss.keep (fun n hn=>k5 n (lo n (by simp[hn])).2 (by have:=(lo n (by simp[hn])).1;omega) (fun h1=>hnd2.2.2 n h1 n hn rfl)),fun n hn=>?_,ln,?_,b1,b2⟩
 .exact (sl4 (E':=EO) (fun _ _ _ _ h=>h)).keep (h':=h5) (fun n hn=>g5 n (by
   rcases f0o.1 hn with rfl | hn
   .omega
   .have:=(hlo n (f09 (by simpa using hn))).1;omega))
 .rcases f0i.1 hn with hn | hn
  .rcases f0o.1 hn with rfl | hn
   .omega
   .have:=hlo n (f09 (by simpa using hn));omega
  .have:=lo n (by simp[hn]);omega
 .refine jws (ns:=nso) (B:=nss) (N:=hi.next) nd (fun n hn=>?_) (jho hnd2.1 .nil (by simp) (fun h1=>by have:=(hlo _ h1).2;omega) (by simp)) (fun n hn=>?_)
  .rcases f0i.1 hn with hn | hn
   .exact (mr0.lt n hn).2
   .exact (lo n hn).2
  .rcases f0o.1 hn with rfl | hn
   .exact .inr (by omega)
   .exact .inl (f09 (by simpa using hn))
section
variable {F:Fns} (B:Base F)
include B
end
end Go.Proofs.Ytbogkjjoigfbjaa.Ev
