/- The builders of functions: what is picked; values, limits. -/
import Derived.Test.YtkplfnkgodnmaaaCdM
import Derived.Test.YtkplfnkgodnmaaaEnc
namespace Go.Proofs.Ytkplfnkgodnmaaa.Ev
open Go Go.RowKit Go.Proofs.Ytkplfnkgodnmaaa.Ms
set_option linter.all false
set_option maxRecDepth 100000
variable {f:FuncId} {h hi:Hp} {vs:List AV} {ns' nso nss:List Nat} {w:Ms} {p:Nat} {pc:Pc} {xo xs:SV}
noncomputable def F0:Fns:=.mk T (fun _ _ _=>none)
theorem qnp:jeb F0 f vs h=none:=rfl
theorem qds {n:Int} {m:Nat} (hm:0<m):pick n (m:Int)=(pk n m:Int):=by
 have:=jzn n (m:Int) (by omega)
 unfold pk
 omega
theorem qhp {n:Int} {m:Nat} (hm:0<m):pk n m<m:=by
 have h1:=jzo n (m:Int) (by omega)
 have h2:=@qds n m hm
 omega
def S1 (f:FuncId):Bool:=Nat.beq f 14
noncomputable def F1:Fns:=PX S1 F0
structure Base (F:Fns):Prop where
 T:∀ f,jy6 F f=T f
 pk:∀ vs h,jeb F 14 vs h=jeb F1 14 vs h
 no:∀ f,f=43∨f=60∨f=46∨f=32∨f=44∨f=45->∀ vs h,jeb F f vs h=none
theorem jd4 {F:Fns} {h':Hp} {u:AV} {Q:AV->Hp->Prop} (hx:jeb F f vs h=some (u,h')):WC F f vs h Q=Q u h':=by
 refine propext ⟨fun⟨n,v,h1,h2,h3⟩=>?_,juo hx⟩
 cases F with
 | mk T X =>
 have h4:Option.rec (motive:=fun _=>R) _ (fun r=>some r) (X f vs h)=some (v,h1):=h2
 rw[show X f vs h=some (u,h') from hx] at h4
 cases h4
 exact h3
section
variable {F:Fns} (B:Base F)
include B
def tt:Tys7:=⟨3,92,94,73,76,54,79⟩
end
section
variable {F:Fns} (B:Base F)
include B
end
structure Pin (p:Pc):Prop where
 kind:-9223372036854775808<=p.kind/\p.kind<=9223372036854775807
 op:-9223372036854775808<=p.op/\p.op<=9223372036854775807
 a:-9223372036854775808<=p.a/\p.a<=9223372036854775807
 b:-9223372036854775808<=p.b/\p.b<=9223372036854775807
 c:-9223372036854775808<=p.c/\p.c<=9223372036854775807
 limits:-9223372036854775808<=p.limits/\p.limits<=9223372036854775807
 flags:-9223372036854775808<=p.flags/\p.flags<=9223372036854775807
structure Wok (w:Ms) (N:Nat):Prop where
 m1:2<=w.m.1/\w.m.1<=10
 m2:2<=w.m.2/\w.m.2<=10
 vals:∀ c∈w.values,c<2
 known:∀ v∈w.known,v<w.values.length
 cur:w.cur<w.blocks.length
 nv:w.values.length<=N
 nb:w.blocks.length<=N
 nk:w.known.length<=N
 ni:∀ b∈w.blocks,b.instrs.length<=N/\b.edges.length<=N/\b.params.length<=N
 na:w.all<=N
structure Iv (h hi:Hp) (p:Nat) (w:Ms) (ns ns':List Nat) (pc:Pc) (s:Iw) (sp:List (Nat×Nat)) (xo xs:SV) (nso nss:List Nat):Prop where
 ok:Ok hi
 nx:h.next+5<=hi.next
 mr:MR tt hi p w ns'
 mv:Mv h hi ns ns'
 hp:hi.get h.next=some (.arr (qno pc) 82)
 hr:hi.get (h.next+1)=some (.arr [si 0,.nilSlice,.nilSlice] 73)
 hx:hi.get (h.next+2)=some (.arr [si (pk pc.op 256),xo,xs] 73)
 hn:hi.get (h.next+3)=some (.arr [si s.need.1,si s.need.2] 3)
 hf:hi.get (h.next+4)=some (.arr [si s.fixed.1,si s.fixed.2] 3)
 so:Sl hi 92 5 false EO xo s.ops nso
 ss:Sl hi 94 2 false ER xs sp nss
 lo:∀ n∈nso++nss,h.next+5<=n/\n<hi.next
 ln:∀ n∈ns',n<h.next∨h.next+5<=n
 nd:(ns'++(nso++nss)).Nodup
 b1:s.need.1<=10/\s.need.2<=10/\s.fixed.1<=s.need.1/\s.fixed.2<=s.need.2
 b2:s.limits<2 ^ 40
section
variable {F:Fns} (B:Base F)
include B
end
theorem Iv.upd {hj:Hp} {w':Ms} {ns ns2:List Nat} {s:Iw} {sp:List (Nat×Nat)} (I:Iv h hi p w ns ns' pc s sp xo xs nso nss) {need fixed:Nat×Nat} {lim:Nat} (okj:Ok hj) (mn:hi.next<=hj.next) (new:∀ n∈ns2,n∈ns'∨hi.next<=n) (mr:MR tt hj p w' ns2) (hn:hj.get (h.next+3)=some (.arr [si need.1,si need.2] 3)) (hf:hj.get (h.next+4)=some (.arr [si fixed.1,si fixed.2] 3))
 (kp:∀ n,n<hi.next->n∉ns'->n≠h.next+3->n≠h.next+4->(n<h.next∨n<=h.next+2∨n∈nso++nss)->hj.get n=hi.get n) (b1:need.1<=10/\need.2<=10/\fixed.1<=need.1/\fixed.2<=need.2) (b2:lim<2 ^ 40):Iv h hj p w' ns ns2 pc ⟨s.ops,lim,need,fixed⟩ sp xo xs nso nss:=by
 obtain⟨ok,nx,mr0,mv0,hp,hr,hx,hn0,hf0,so,ss,lo,ln,nd,_,_⟩:=I
 have hnd:=f0s.1 nd
 have dj:∀ n∈nso++nss,n∉ns':=fun n hn h1=>hnd.2.2 n h1 n hn rfl
 have e:∀ n,h.next<=n->n<=h.next+2->hj.get n=hi.get n:=fun n h1 h2=>kp n (by omega) (fun h3=>by have:=ln n h3;omega) (by omega) (by omega) (.inr (.inl h2))
 have e2:∀ n∈nso++nss,hj.get n=hi.get n:=fun n hn=>kp n (lo n hn).2 (dj n hn) (by have:=(lo n hn).1;omega) (by have:=(lo n hn).1;omega) (.inr (.inr hn))
 refine⟨okj,by omega,mr,⟨okj,by have:=mv0.nx;omega,fun n h1=>?_,fun n h1 h2=>?_⟩,(e _ (by omega) (by omega)).trans hp,(e _ (by omega) (by omega)).trans hr,(e _ (by omega) (by omega)).trans hx,hn,hf,so.keep (fun n hn=>e2 n (by simp[hn])),ss.keep (fun n hn=>e2 n (by simp[hn])),fun n h1=>⟨(lo n h1).1,by have:=(lo n h1).2;omega⟩,fun n h1=>?_,?_,b1,b2⟩
 .rcases new n h1 with h2 | h2
  .exact mv0.new n h2
  .exact .inr (by omega)
 .have h3:n∉ns':=fun h3=>by
   rcases mv0.new n h3 with h4 | h4
   .exact h2 h4
   .omega
  exact(kp n (by omega) h3 (by omega) (by omega) (.inl h1)).trans (mv0.keep n h1 h2)
 .rcases new n h1 with h2 | h2
  .exact ln n h2
  .exact .inr (by omega)
 .rw [f0s]
  refine⟨mr.nodup,hnd.2.1,fun a ha b hb e=>?_⟩
  subst e
  rcases new a ha with h2 | h2
  .exact dj a hb h2
  .have:=(lo a hb).2;omega
theorem Iv.app {ns:List Nat} {s:Iw} {sp:List (Nat×Nat)} (I:Iv h hi p w ns ns' pc s sp xo xs nso nss) (hl:s.ops.length<=100) (o:Ms.Opd) :
 ∃ h4 nso',jjv (hi.push (.arr (jbc o) 92)) 92 5 40 (.s xo) (.s (.slice hi.next 0 1 1 true 5))=some (.s (.slice (hi.next+1) 0 (s.ops.length+1) (s.ops.length+1) false 5),h4)/\Ok h4/\h4.get (h.next+2)=some (.arr [si (pk pc.op 256),xo,xs] 73) /\
  Iv h (h4.put (h.next+2) (some (.arr [si (pk pc.op 256),.slice (hi.next+1) 0 (s.ops.length+1) (s.ops.length+1) false 5,xs] 73))) p w ns ns' pc { s with ops:=s.ops++[o] } sp (.slice (hi.next+1) 0 (s.ops.length+1) (s.ops.length+1) false 5) xs nso' nss:=by
 obtain⟨ok,nx,mr0,mv0,hp,hr,hx,hn0,hf0,so,ss,lo,ln,nd,b1,b2⟩:=I
 have hlo:∀ n∈nso,h.next+5<=n/\n<hi.next:=fun n hn=>lo n (by simp[hn])
 have hnd:=f0s.1 nd
 have hnd2:=f0s.1 hnd.2.1
 obtain⟨h4,e4,ok4,nx4,kp4,kt4,sl4⟩:=so.app1 (bytes:=40) (row:=jbc o) (a:=o) (ms:=[]) ok (fun n hn=>by have:=hlo n hn;omega) rfl ⟨rfl,rfl⟩ (by omega) (by omega)
 have nsl:∀ n,n<h.next+5->n∉nso:=fun n h1 h2'=>by have:=(hlo n h2').1;omega
 refine⟨h4,(hi.next+1)::(nso.tail++[]),e4,ok4,(kp4 _ (by omega) (nsl _ (by omega))).trans hx,?_⟩
 have g5:∀ n,n≠h.next+2->(h4.put (h.next+2) (some (AB.arr [si ↑(pk pc.op 256),SV.slice (hi.next+1) 0 (s.ops.length+1) (s.ops.length+1) false 5,xs] 73))).get n=h4.get n:=fun n hn=>by
  rw[jba ok4 (by omega),if_neg hn]
 have x5:(h4.put (h.next+2) (some (AB.arr [si ↑(pk pc.op 256),SV.slice (hi.next+1) 0 (s.ops.length+1) (s.ops.length+1) false 5,xs] 73))).get (h.next+2)=some (AB.arr [si ↑(pk pc.op 256),SV.slice (hi.next+1) 0 (s.ops.length+1) (s.ops.length+1) false 5,xs] 73):=by
  rw[jba ok4 (by omega),if_pos rfl]
 have n5:(h4.put (h.next+2) (some (AB.arr [si ↑(pk pc.op 256),SV.slice (hi.next+1) 0 (s.ops.length+1) (s.ops.length+1) false 5,xs] 73))).next=hi.next+2:=by
  rw[Hp.next_put,nx4]
 have ok5:Ok (h4.put (h.next+2) (some (AB.arr [si ↑(pk pc.op 256),SV.slice (hi.next+1) 0 (s.ops.length+1) (s.ops.length+1) false 5,xs] 73))):=jdf ok4
 generalize h4.put (h.next+2) (some (AB.arr [si ↑(pk pc.op 256),SV.slice (hi.next+1) 0 (s.ops.length+1) (s.ops.length+1) false 5,xs] 73))=h5 at g5 x5 n5 ok5
 have k5:∀ n,n<hi.next->n≠h.next+2->n∉nso->h5.get n=hi.get n:=fun n h1 h2' h5'=>(g5 n h2').trans (kp4 n h1 h5')
 have dj:∀ n∈ns',n∉nso:=fun n hn h1=>hnd.2.2 n hn n (by simp[h1]) rfl
 refine⟨ok5,by omega,mr0.keep (fun n hn=>k5 n (mr0.lt n hn).2 (by have:=ln n hn;omega) (dj n hn)) (by omega),⟨ok5,by have:=mv0.nx;omega,mv0.new,fun n h1 h2'=>(k5 n (by omega) (by omega) (nsl n (by omega))).trans (mv0.keep n h1 h2')⟩,
  (k5 _ (by omega) (by omega) (nsl _ (by omega))).trans hp,(k5 _ (by omega) (by omega) (nsl _ (by omega))).trans hr,x5,(k5 _ (by omega) (by omega) (nsl _ (by omega))).trans hn0,(k5 _ (by omega) (by omega) (nsl _ (by omega))).trans hf0,
  ?_,ss.keep (fun n hn=>k5 n (lo n (by simp[hn])).2 (by have:=(lo n (by simp[hn])).1;omega) (fun h1=>hnd2.2.2 n h1 n hn rfl)),fun n hn=>?_,ln,?_,b1,b2⟩
 .exact (sl4 (E':=EO) (fun _ _ _ _ h=>h)).keep (h':=h5) (fun n hn=>g5 n (by
   rcases f0h.1 hn with rfl | hn
   .omega
   .have:=(hlo n (f0r (by simpa using hn))).1;omega))
 .rcases f0f.1 hn with hn | hn
  .rcases f0h.1 hn with rfl | hn
   .omega
   .have:=hlo n (f0r (by simpa using hn));omega
  .have:=lo n (by simp[hn]);omega
 .refine je7 (ns:=nso) (B:=nss) (N:=hi.next) nd (fun n hn=>?_) (jl2 hnd2.1 .nil (by simp) (fun h1=>by have:=(hlo _ h1).2;omega) (by simp)) (fun n hn=>?_)
  .rcases f0f.1 hn with hn | hn
   .exact (mr0.lt n hn).2
   .exact (lo n hn).2
  .rcases f0h.1 hn with rfl | hn
   .exact .inr (by omega)
   .exact .inl (f0r (by simpa using hn))
section
variable {F:Fns} (B:Base F)
include B
end
end Go.Proofs.Ytkplfnkgodnmaaa.Ev
