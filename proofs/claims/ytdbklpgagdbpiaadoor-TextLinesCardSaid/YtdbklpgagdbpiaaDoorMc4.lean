/- The interpreter set to this program, some functions (a range over a function; loads in no order) among what it answers. -/
import Derived.Test.YtdbklpgagdbpiaaDoorBack3
import Derived.Test.YtdbklpgagdbpiaaDoorEnv
import Derived.Test.YtdbklpgagdbpiaaDoorMa10
import Derived.Test.YtdbklpgagdbpiaaDoorWb
namespace Go.Proofs.YtdbklpgagdbpiaaDoor.Ev
noncomputable section
open Go Go.RowKit
set_option linter.all false
set_option maxRecDepth 100000
def jm8 (na:Nat) (acc:List Nat):Code->List Nat
 | .seq a b=>jm8 na (jm8 na acc a) b
 | .block _ b=>jm8 na acc b
 | .loop b=>jm8 na acc b
 | .rangeFunc g _ _ b=>jkc na (rdO na [] acc [g]) b
 | c=>jkc na acc c
inductive IFB where
 | mk (ib:IB) (nargs nslots:Nat) (res:List IR)
def qjs (T:Tr TI) (fl:Bool) (f:Func):Option IFB :=
 match f.body with
 | none=>none
 | some b =>
  match f.params.size+f.nfree with
  | nargs=>match j6o nargs (jm8 nargs [] b) f.results.toList with
   | acc=>match cB T fl (j4t 0 nargs++acc) f.ntmps b,qck T (j4t 0 nargs++acc) f.results.toList with
    | some c,some r=>bif Nat.ble nargs f.ntmps then some (.mk c nargs (jb2 acc) r) else none
    | _,_=>none
def TB (c:FuncId) (fl:Bool):Option IFB:=ob (Tryd.prog.funcs[c]?) (qjs tys fl)
open Go Go.RowKit Go.Proofs.YtdbklpgagdbpiaaDoor.Ms
variable {Q:Ex->St->Prop} {fr st:List AV} {ns2:List Nat} {w2:Ms} {size:Nat} {xo:SV}
attribute [local go_sem] Int.reduceToNat reduceCtorEq Nat.reduceAdd Nat.reduceMul Nat.reduceEqDiff Int.reduceEq Int.reduceLT Int.reduceLE Int.reduceNeg Int.reduceAdd Int.reduceSub Int.reduceMul Int.reduceNe
attribute [local go_sem ↓] reduceIte
set_option maxHeartbeats 2000000
theorem Wok.edge {w:Ms} {N:Nat} (wk:Wok w N) (k to:Nat) (args:List Nat):Wok (jav w k to args) (N+1):=by
 unfold jav
 refine⟨wk.m1,wk.m2,wk.vals,wk.known,by show w.cur<(w.blocks.modify k _).length;rw[f1g];exact wk.cur,f2i wk.nv,by show(w.blocks.modify k _).length<=_;rw[f1g];exact f2i wk.nb,f2i wk.nk,fun b hb=>?_,f2i wk.na⟩
 have hb':b∈w.blocks.modify k (fun b=>{ b with edges:=b.edges++[⟨to,args⟩] }):=hb
 rcases f0h k w.blocks.length with h1 | h1
 .rw [jd8 (f0b h1)] at hb'
  rcases List.mem_or_eq_of_mem_set hb' with h | rfl
  .have:=wk.ni b h;omega
  .have:=wk.ni _ (f2z h1)
   simp only[f0k,f2n];omega
 .rw [List.modify_eq_self h1] at hb'
  have:=wk.ni b hb';omega
section
variable {F:Fns} (B:Base F)
include B
theorem j9h {h2:Hp} {p:Nat} {ns:List Nat} (ok2:Ok h2) (mr2:MR tt h2 p w2 ns) {N:Nat} (wk2:Wok w2 N) (hN:N<=80000) {kk to:Nat} {args:List Nat} {sa:SV} {n1:List Nat} (hkk:kk<w2.blocks.length) (hsa:Sl h2 3 1 true EI sa args n1) (nd1:n1.Nodup) (lo1:∀ n∈n1,1<=n/\n<h2.next/\n∉ns) :
 WC F 25 [.s (.ptr p 0),vi kk,vi to,.s sa] h2 (fun v h'=>v=.tup []/\∃ ns',MR tt h' p (jav w2 kk to args) ns'/\Mv h2 h' (ns++n1) ns'):=by
 refine ja9 (B.no 25 (by simp) _ _) ((B.T _).trans qjn) rfl ?_
 unfold j28
 obtain⟨⟨av,bv,kv,m1,m2,m3,hg,hv,hb,hk,rfl⟩,hd,hlt⟩:=mr2
 have hp:=hlt p (by simp)
 obtain⟨blk,hblk⟩:∃ b,w2.blocks[kk]?=some b:=⟨_,f0b hkk⟩
 have hni:=wk2.ni blk (f0c hblk)
 obtain⟨bb,row,ms,M1,M2,cells,ix,hbg,hrd,hrl,⟨pp,ia,ee,na,nb,nc,rfl,sp,sI,sE,rfl⟩,rfl,hset⟩:=hb.upd hblk
 have rd1:=jg3 (j:=2) (c:=ee) hrd rfl
 have hbb:=hlt bb (by simp)
 obtain⟨cells',hst,hset'⟩:=hset (j:=2) (v:=SV.slice (h2.next+1) 0 (blk.edges.length+1) (blk.edges.length+1) false 2) (by omega)
 have lt':=fun n hn=>(hlt n hn).2
 have sub_nc:∀ n∈nc,n∈p::(m1++(bb::(M1++(na++(nb++nc)++M2))++m3)):=fun n hn=>by simp[hn]
 have hdt:=(f0w.1 hd).2
 have e0:m1++(bb::(M1++(na++(nb++nc)++M2))++m3)=(m1++(bb::(M1++(na++nb))))++(nc++(M2++m3)):=by simp[f0l]
 have hpb:p≠bb:=fun e=>(f0w.1 hd).1 (by simp[e])
 have hpn:p∉nc:=fun e=>(f0w.1 hd).1 (by simp[e])
 rw[e0] at hdt
 have hd3:=f0r.1 hdt
 have hdnc:=(f0r.1 hd3.2.1).1
 have hbn:bb∉nc:=fun e=>hd3.2.2 bb (by simp) bb (by simp[e]) rfl
 have hsa':Sl h2 tt.int 1 true EI sa args n1:=hsa
 have hEE:EE tt h2 [si to,sa] (Ms.Edg.mk to args) n1:=⟨sa,rfl,hsa'⟩
 obtain⟨h4,e4,ok4,n4,kp4,kt4,sl4⟩:=sE.app1 (E:=EE tt h2) (bytes:=32) (row:=[si to,sa]) (a:=Ms.Edg.mk to args) (ms:=n1) ok2 (fun n hn=>hlt n (sub_nc n hn)) rfl hEE (by omega) (by omega)
 have e4':juf (h2.push (AB.arr [si to,sa] 62)) 62 2 32 (AV.s ee) (AV.s (SV.slice h2.next 0 1 1 true 2))=some (AV.s (SV.slice (h2.next+1) 0 (blk.edges.length+1) (blk.edges.length+1) false 2),h4):=e4
 have p4:h4.get p=_:=(kp4 p hp.2 hpn).trans hg
 have b4:h4.get bb=_:=(kp4 bb hbb.2 hbn).trans hbg
 simp(disch:=first|omega|rfl) only[go_sem,jj5,jdz,jd0,jj6,jj7,and_false,false_and,if_false,hg,ix,rd1,e4',b4,hst,p4]
 obtain⟨h5,e5⟩:∃ h5,h5=h4.put bb (some (AB.arr cells' tt.blk)):=⟨_,rfl⟩
 rw[←e5]
 have ok5:Ok h5:=by rw[e5];exact jas ok4
 have g5:∀ n,n≠bb->h5.get n=h4.get n:=fun n hn=>by rw[e5,jak ok4 hbb.1,if_neg hn]
 have b5:h5.get bb=some (AB.arr cells' tt.blk):=by rw[e5,jak ok4 hbb.1,if_pos rfl]
 have n5:h5.next=h2.next+2:=by rw[e5,Hp.next_put,n4]
 clear e5
 have k5:∀ n,n<h2.next->n∉nc->n≠bb->h5.get n=h2.get n:=fun n h1 h3' h4'=>(g5 n h4').trans (kp4 n h1 h3')
 have q1:∀ n∈n1,n∉nc/\n≠bb:=fun n hn=>⟨fun h1=>(lo1 n hn).2.2 (sub_nc n h1),fun h1=>(lo1 n hn).2.2 (by simp[h1])⟩
 have qA:∀ n∈m1++(bb::(M1++(na++nb))),n∉nc:=fun n hn h1=>hd3.2.2 n hn n (by simp[h1]) rfl
 have hd4:=f0r.1 hd3.2.1
 have qB:∀ n∈M2++m3,n∉nc:=fun n hn h1=>hd4.2.2 n h1 n hn rfl
 have hd5:=f0r.1 hd3.1
 have hd6:=f0w.1 hd5.2.1
 have b1:∀ n∈m1,n≠bb:=fun n hn e=>hd5.2.2 n hn bb (by simp) e
 have b2:∀ n∈M1++(na++nb),n≠bb:=fun n hn e=>hd6.1 (e▸hn)
 have b3:∀ n∈nc++(M2++m3),n≠bb:=fun n hn e=>hd3.2.2 bb (by simp) n hn e.symm
 have K:∀ n,n∈m1∨n∈M1∨n∈na∨n∈nb∨n∈M2∨n∈m3->h5.get n=h2.get n:=fun n hn=>by
  refine k5 n (lt' n ?_) ?_ ?_
  .rcases hn with h | h | h | h | h | h<;>simp[h]
  .rcases hn with h | h | h | h | h | h
   .exact qA n (by simp[h])
   .exact qA n (by simp[h])
   .exact qA n (by simp[h])
   .exact qA n (by simp[h])
   .exact qB n (by simp[h])
   .exact qB n (by simp[h])
  .rcases hn with h | h | h | h | h | h
   .exact b1 n h
   .exact b2 n (by simp[h])
   .exact b2 n (by simp[h])
   .exact b2 n (by simp[h])
   .exact b3 n (by simp[h])
   .exact b3 n (by simp[h])
 have T:∀ n∈nc.tail,h5.get n=h2.get n:=fun n hn=>(g5 n (b3 n (by simp[f0o hn]))).trans (kt4 n hn hdnc)
 have X1:∀ n∈n1,h5.get n=h2.get n:=fun n hn=>k5 n (lo1 n hn).2.1 (q1 n hn).1 (q1 n hn).2
 have sE5:Sl h5 tt.edg 2 false (EE tt h5) (SV.slice (h2.next+1) 0 (blk.edges.length+1) (blk.edges.length+1) false 2) (blk.edges++[⟨to,args⟩]) ((h2.next+1)::(nc.tail++n1)):=by
  have:=sl4 (E':=EE tt h5) (fun row a m hm k=>k.keep (fun n hn=>by
   rcases hm n hn with h1 | h1
   .exact T n h1
   .exact X1 n h1))
  refine this.keep (fun n hn=>g5 n ?_)
  rcases f0j.1 hn with rfl | hn
  .omega
  .rcases f0e.1 hn with hn | hn
   .exact b3 n (by simp[f0o hn])
   .exact (q1 n hn).2
 have sB:=hset' (h':=h5) (E':=EB tt h5) (a':={ blk with edges:=blk.edges++[⟨to,args⟩] }) (ms':=na++(nb++((h2.next+1)::(nc.tail++n1)))) b5 ⟨pp,ia,_,na,nb,_,rfl,sp.keep (fun n hn=>K n (by simp[hn])),sI.imp (fun n hn=>K n (by simp[hn])) (fun row a ms hm k=>k.keep (fun n hn=>K n (by simp[hm n hn]))),sE5,rfl⟩ (fun row a m hm k=>k.keep (fun n hn=>by
  rcases f0e.1 (hm n hn) with h | h
  .exact K n (by simp[h])
  .exact K n (by simp[h])))
 have hmod:(jav w2 kk to args).blocks=w2.blocks.set kk { blk with edges:=blk.edges++[⟨to,args⟩] }:=by
  unfold jav;exact jd8 hblk
 rw[←hmod] at sB
 have hnk:(h2.next+1)∉nc/\(h2.next+1)∉n1:=⟨fun h1=>by have:=lt' _ (sub_nc _ h1);omega,fun h1=>by have:=(lo1 _ h1).2.1;omega⟩
 have nd5:((h2.next+1)::(nc.tail++n1)).Nodup:=jdk hdnc nd1 (fun n hn=>(q1 n hn).1) hnk.1 hnk.2
 have e6:m1++(bb::(M1++(na++(nb++((h2.next+1)::(nc.tail++n1)))++M2))++m3)=(m1++(bb::(M1++(na++nb))))++(((h2.next+1)::(nc.tail++n1))++(M2++m3)):=by simp[f0l]
 have old:∀ n,n∈(m1++(bb::(M1++(na++nb))))++(nc++(M2++m3))->n∈p::(m1++(bb::(M1++(na++(nb++nc)++M2))++m3)):=fun n hn=>by
  rw[←e0] at hn;exact f04 _ hn
 have hn6:∀ n∈(m1++(bb::(M1++(na++nb))))++(((h2.next+1)::(nc.tail++n1))++(M2++m3)),n∈p::(m1++(bb::(M1++(na++(nb++nc)++M2))++m3))∨n=h2.next+1∨n∈n1:=fun n hn=>by
  rcases f0e.1 hn with hn | hn
  .exact .inl (old n (f1e _ hn))
  .rcases f0e.1 hn with hn | hn
   .rcases f0j.1 hn with rfl | hn
    .exact .inr (.inl rfl)
    .rcases f0e.1 hn with hn | hn
     .exact .inl (sub_nc n (f0o hn))
     .exact .inr (.inr hn)
   .exact .inl (old n (f03 _ (f03 _ hn)))
 have nd6:(p::(m1++(bb::(M1++(na++(nb++((h2.next+1)::(nc.tail++n1)))++M2))++m3))).Nodup:=by
  rw[f0w]
  refine⟨fun h1=>?_,?_⟩
  .rw [e6] at h1
   rcases f0e.1 h1 with h1 | h1
   .exact (f0w.1 hd).1 (by rw[e0];exact f1e _ h1)
   .rcases f0e.1 h1 with h1 | h1
    .rcases f0j.1 h1 with h1 | h1
     .omega
     .rcases f0e.1 h1 with h1 | h1
      .exact hpn (f0o h1)
      .exact (lo1 p h1).2.2 (by simp)
    .exact (f0w.1 hd).1 (by rw[e0];exact f03 _ (f03 _ h1))
  .rw [e6]
   refine jhr hdt nd5 (fun n hn=>?_)
   rcases f0j.1 hn with rfl | hn
   .exact .inr (fun h1=>by have:=lt' _ (old _ h1);omega)
   .rcases f0e.1 hn with hn | hn
    .exact .inl (f0o hn)
    .exact .inr (fun h1=>(lo1 n hn).2.2 (old n h1))
 have lt6:∀ n∈p::(m1++(bb::(M1++(na++(nb++((h2.next+1)::(nc.tail++n1)))++M2))++m3)),1<=n/\n<h5.next:=fun n hn=>by
  rcases f0j.1 hn with rfl | hn
  .omega
  .rw [e6] at hn
   rcases hn6 n hn with h1 | h1 | h1
   .have:=hlt n h1;omega
   .omega
   .have:=lo1 n h1;omega
 refine⟨_,⟨⟨av,bv,kv,m1,_,m3,(g5 p hpb).trans p4,hv.keep (fun n hn=>K n (by simp[hn])),sB,hk.keep (fun n hn=>K n (by simp[hn])),rfl⟩,nd6,lt6⟩,⟨ok5,by omega,fun n hn=>?_,fun n h1 h3'=>?_⟩⟩
 .have hn':n∈p::(m1++(bb::(M1++(na++(nb++nc)++M2))++m3))∨n=h2.next+1∨n∈n1:=by
   rcases f0j.1 hn with rfl | hn
   .exact .inl (by simp)
   .rw [e6] at hn;exact hn6 n hn
  rcases hn' with h1 | h1 | h1
  .have:=f1e n1 h1
   exact .inl this
  .exact .inr (by omega)
  .exact .inl (by simp[h1])
 .have hno:n∉p::(m1++(bb::(M1++(na++(nb++nc)++M2))++m3)):=fun h4'=>h3' (by have:=f1e n1 h4';exact this)
  exact k5 n h1 (fun h4'=>hno (sub_nc n h4')) (fun e=>hno (by simp[e]))
end
theorem qdw {p:Pc} {flags uses i:Nat} {x:Iw×Nat×Ms}:∃ o∈(jfz p flags uses i x).1.ops,o.kind=2:=by
 unfold jfz
 simp only
 split<;>exact⟨_,f03 _ (f0q.2 rfl),rfl⟩
theorem qdx {p:Pc} {flags uses i:Nat} {x:Iw×Nat×Ms}:∀ o∈x.1.ops,o∈(jfz p flags uses i x).1.ops:=by
 intro o ho
 unfold jfz
 simp only
 split<;>simp[ho]
theorem jyb {p:Pc} {flags uses:Nat}:∀ (d i:Nat) (x:Iw×Nat×Ms),∀ o∈x.1.ops,o∈(jek p flags uses d i x).1.ops
 | 0,i,x,o,h=>h
 | d+1,i,x,o,h=>jyb d (i+1) _ o (qdx o h)
theorem jq9 {w:Ms} {p:Pc}:(jcu w p).known≠[]:=by
 have h:∃ o∈(ja0 w p).1.ops,o.kind=2:=by
  unfold ja0
  simp only
  rw[Nat.add_comm 1]
  obtain⟨o,h1,h2⟩:=qdw (p:=p) (flags:=pk p.flags (2 ^ 30)) (uses:=(jfu w p (pk p.flags (2 ^ 30)) (if w.known=[] then 0 else pk p.flags (2 ^ 30) % 4) 0 ⟨[],pk p.limits (2 ^ 40),(0,0),(0,0)⟩).ops.length) (i:=0) (x:=(jfu w p (pk p.flags (2 ^ 30)) (if w.known=[] then 0 else pk p.flags (2 ^ 30) % 4) 0 ⟨[],pk p.limits (2 ^ 40),(0,0),(0,0)⟩,(jfu w p (pk p.flags (2 ^ 30)) (if w.known=[] then 0 else pk p.flags (2 ^ 30) % 4) 0 ⟨[],pk p.limits (2 ^ 40),(0,0),(0,0)⟩).ops.length,w))
  exact⟨o,jyb _ 1 _ o h1,h2⟩
 obtain⟨o,h1,h2⟩:=h
 intro h3
 have h4:(ja0 w p).2.known++jdf (ja0 w p).1=[]:=h3
 have h5:=(List.append_eq_nil_iff.1 h4).2
 unfold jdf at h5
 have h6:o.value∈((ja0 w p).1.ops.filter (fun o=>o.kind=2)).map (·.value):=f19.2 ⟨o,List.mem_filter.2 ⟨h1,by simpa using h2⟩,rfl⟩
 rw[h5] at h6
 cases h6
section
variable {F:Fns} (B:Base F)
include B
theorem jra {hi:Hp} {p bx:Nat} {w:Ms} {ns:List Nat} (ok:Ok hi) (mr:MR tt hi p w ns) {N:Nat} (wk:Wok w N) (hN:N<=90000) {cls:Nat} {a x3:AV}:∀ (n:Nat) (i:Int) (_:i=n - 1∨(n=0/\i<0/\-10<=i)) (_:n<=w.known.length) (x4 x5:AV)
 (hF:jvg w cls n=none->∀ x4 x5 i,Q (.exit 0) (.mk [.s (.ptr p 0),vi cls,a,x3,x4,x5,vi i,.s (.ptr bx 0)] hi))
 (hS:∀ v,jvg w cls n=some v->∀ x4 x5 i,Q .ret (.mk [.s (.ptr p 0),vi cls,a,vi v,x4,x5,vi i,.s (.ptr bx 0)] hi)),
 W F ji2.loop (.mk [.s (.ptr p 0),vi cls,a,x3,x4,x5,vi i,.s (.ptr bx 0)] hi) Q
 | 0,i,h1,h2,x4,x5,hF,hS=>by
  rw[jaj]
  unfold ji2
  have h3:¬ (0<=i):=by omega
  simp(disch:=first|omega|rfl) only[go_sem,h3]
  exact hF rfl _ _ _
 | n+1,i,h1,h2,x4,x5,hF,hS=>by
  rw[jaj]
  unfold ji2
  have h3:i=(n:Int):=by omega
  subst h3
  have h4:(0<=(n:Int)):=by omega
  obtain⟨⟨av,bv,kv,n1,n2,n3,hg,hv,hb,hk,e0⟩,hd,hlt⟩:=id mr
  obtain⟨v,hv1⟩:∃ v,w.known[n]?=some v:=⟨_,f0b h2⟩
  have hvl:=wk.known v (f0c hv1)
  obtain⟨kb,krow,kms,ke1,ke2,ke3,⟨rfl,rfl⟩,ke5,ke6⟩:=hk.at hv1
  obtain⟨c,hc1⟩:∃ c,w.values[v]?=some c:=⟨_,f0b hvl⟩
  obtain⟨vb1,vrow,vms,ve1,ve2,ve3,⟨rfl,rfl⟩,ve5,ve6⟩:=hv.at hc1
  have hfind:jvg w cls (n+1)=if c=cls then some v else jvg w cls n:=by
   show(if w.values.getD (w.known.getD n 0) 0=cls then _ else _)=_
   simp only[f0f,hv1,hc1,f1t]
  have hnk:=wk.nk
  by_cases hc:(c:Int)=cls
  .have hc':c=cls:=by omega
   simp(disch:=first|omega|rfl) only[go_sem,eq_true h4,hg,ke1,ke2,ve1,ve2,eq_true hc]
   exact hS v (by rw[hfind,if_pos hc']) _ _ _
  .have hc':c≠cls:=by omega
   simp(disch:=first|omega|rfl) only[go_sem,eq_true h4,hg,ke1,ke2,ve1,ve2,eq_false hc,jad]
   exact jra ok mr wk hN n _ (.inl rfl) (by omega) _ _ (fun h=>hF (by rw[hfind,if_neg hc',h])) (fun v h=>hS v (by rw[hfind,if_neg hc',h]))
theorem Wok.newest {w:Ms} {N:Nat} (wk:Wok w N) (cls:Nat) (p:Pc):Wok (jac w cls p).2 (N+10):=by
 unfold jac
 split
 .exact ⟨wk.m1,wk.m2,wk.vals,wk.known,wk.cur,f1q wk.nv,f1q wk.nb,f1q wk.nk,fun b hb=>by have:=wk.ni b hb;omega,f1q wk.na⟩
 .exact wk.lay _
theorem j9i {h:Hp} {p:Nat} {w:Ms} {ns:List Nat} (ok:Ok h) (mr:MR tt h p w ns) {N:Nat} (wk:Wok w N) (hN:N<=79000) (cls:Nat) (hcls:cls<2) (pc:Pc) (pin:Pin pc) :
 WC F 26 [.s (.ptr p 0),vi cls,.agg (jce pc)] h (fun v h'=>v=vi (jac w cls pc).1/\∃ ns',MR tt h' p (jac w cls pc).2 ns'/\Mv h h' ns ns'):=by
 refine ja9 (B.no 26 (by simp) _ _) ((B.T _).trans qdq) rfl ?_
 unfold jx4
 have hpos:=ok.pos
 obtain⟨hA,eA⟩:∃ hA,hA=h.push (AB.arr (jce pc) 69):=⟨_,rfl⟩
 have okA:Ok hA:=by rw[eA];exact ja4 ok
 have gA:∀ n,n<h.next->hA.get n=h.get n:=fun n hn=>by rw[eA,ja6 ok,if_neg (by omega)]
 have oA:hA.get h.next=some (.arr (jce pc) 69):=by rw[eA,ja6 ok,if_pos rfl]
 have nA:hA.next=h.next+1:=by rw[eA,Hp.next_push]
 have eA':h.push (AB.arr [si pc.kind,si pc.op,si pc.a,si pc.b,si pc.c,si pc.limits,si pc.flags] 69)=hA:=by rw[eA];rfl
 clear eA
 have mrA:=mr.keep (h':=hA) (fun n hn=>gA n (mr.lt n hn).2) (by omega)
 have mvA:Mv h hA ns ns:=⟨okA,by omega,fun n hn=>.inl hn,fun n h1 h2=>gA n h1⟩
 unfold jce at oA
 obtain⟨⟨av,bv,kv,n1,n2,n3,hg,hv,hb,hk,e0⟩,hd,hlt⟩:=id mrA
 have kl:=hk.len
 have hnk:=wk.nk
 obtain⟨⟨q1,q2⟩,⟨q3,q4⟩,⟨q5,q6⟩,⟨q7,q8⟩,⟨q9,q10⟩,⟨q11,q12⟩,⟨q13,q14⟩⟩:=id pin
 have hp3:pk pc.b 3<3:=jgo (by omega)
 simp(disch:=first|omega|rfl) only[go_sem,jf1,jf2,jf3,jf4,jf5,jb5,jam,jai,jba B,jce,eA',hg,oA,kl,jad]
 refine jra B okA mrA wk (by omega) (w.known.length - pk pc.b 3) _ (by omega) (Nat.sub_le _ _) _ _ (fun hF x4 x5 i=>?_) (fun v hF x4 x5 i=>?_)
 .have hnew:jac w cls pc=((jcu w { pc with c:=3*cls }).known.getD ((jcu w { pc with c:=3*cls }).known.length - 1) 0,jcu w { pc with c:=3*cls }):=by
   unfold jac;rw[hF]
  rw[hnew]
  have hbx:∀ n∈ns,n≠h.next:=fun n hn e=>by have:=(mr.lt n hn).2;omega
  obtain⟨hB,eB⟩:∃ hB,hB=hA.put h.next (some (AB.arr [si pc.kind,si pc.op,si pc.a,si pc.b,si (3*(cls:Int)),si pc.limits,si pc.flags] 69)):=⟨_,rfl⟩
  have okB:Ok hB:=by rw[eB];exact jas okA
  have gB:∀ n,n≠h.next->hB.get n=hA.get n:=fun n hn=>by rw[eB,jak okA hpos,if_neg hn]
  have oB:hB.get h.next=some (AB.arr [si pc.kind,si pc.op,si pc.a,si pc.b,si (3*(cls:Int)),si pc.limits,si pc.flags] 69):=by rw[eB,jak okA hpos,if_pos rfl]
  have nB:hB.next=h.next+1:=by rw[eB,Hp.next_put,nA]
  have mrB:=mrA.keep (h':=hB) (fun n hn=>gB n (hbx n hn)) (by omega)
  have mvB:Mv h hB ns ns:=⟨okB,by omega,fun n hn=>.inl hn,fun n h1 h2=>(gB n (by omega)).trans (gA n h1)⟩
  have h3c:(3*(cls:Int))<=3/\0<=3*(cls:Int):=by omega
  simp(disch:=first|omega|rfl) only[go_sem,oA,jad]
  rw[←eB]
  refine WC.imp (qfk B okB mrB wk (by omega) { pc with c:=3*cls } ⟨⟨q1,q2⟩,⟨q3,q4⟩,⟨q5,q6⟩,⟨q7,q8⟩,⟨by show _<=3*(cls:Int);omega,by show 3*(cls:Int)<=_;omega⟩,⟨q11,q12⟩,⟨q13,q14⟩⟩) ?_
  rintro _ h2 ⟨rfl,ns',mr2,mv2⟩
  have wk2:=wk.lay { pc with c:=3*cls }
  have hne:=jq9 (w:=w) (p:={ pc with c:=3*cls })
  generalize jcu w { pc with c:=3*cls }=w2 at mr2 wk2 hne ⊢
  have mrr:=mr2
  obtain⟨⟨av2,bv2,kv2,m1,m2,m3,hg2,hv2,hb2,hk2,e2⟩,hd2,hlt2⟩:=mr2
  have hl2:0<w2.known.length:=f1w.2 hne
  obtain⟨v,hv3⟩:∃ v,w2.known[w2.known.length - 1]?=some v:=⟨_,f0b (by omega)⟩
  obtain⟨kb,krow,kms,ke1,ke2,ke3,⟨rfl,rfl⟩,ke5,ke6⟩:=hk2.at hv3
  have kl2:=hk2.len
  have hnk2:=wk2.nk
  have ok2:=mv2.ok
  have hgd:w2.known.getD (w2.known.length - 1) 0=v:=by rw[f0f,hv3,f1t]
  have hsub:((w2.known.length:Int) - 1)=((w2.known.length - 1:Nat):Int):=by omega
  simp(disch:=first|omega|rfl) only[go_sem,hg2,kl2,jad,hsub,ke1,ke2,hgd]
  exact⟨ns',mrr,mvB.trans mv2⟩
 .have hnew:jac w cls pc=(v,w):=by unfold jac;rw[hF]
  rw[hnew]
  simp(disch:=first|omega|rfl) only[go_sem]
  exact⟨ns,mrA,mvA⟩
end
def jyc:IC:=.region [qQ 2 (.mv (qC 0))]
def jyd:IC:=.region [qP (.build [.nilSlice,.nilSlice,.nilSlice] []),qB 4 (.new 39 [.nilSlice,.nilSlice,.nilSlice]),qA (.store 3 qa qb)]
def jye:IC:=.region [qQ 5 (.mv (.g 1)),qQ 7 (.len qa),qQ 8 (.mv (qC 0))]
def jrb:IC:=.region [qQ 6 (.bin .lt (.g 8) (.g 7))]
def jrc:IC:=qX 6 0
def jyf:IC:=.region [qP (.ixs 1 (.g 5) (.g 8)),qL,qT 3]
def jyg:List (IOper×List Nat):=[(qF 0 4,[]),(qL,[]),(qM 0,[]),(qM 3,[]),(qA (.call 24 [qb,qa]),[2]),(qA (.bslice 3 1 [.int .i64 0] 1 [(0,(1,qa))]),[3]),(qA (.app 3 1 8 (.l 4) qa),[]),(qF 0 4,[]),(qA (.store 1 qa qb),[])]
def jyh:IC:=.region [qI 8,qT 8]
def jrd:IB:=.seq (.c jrb) (.seq (.c jrc) (.seq (.block 1 (.seq (.c jyf) (.flo jyg))) (.c jyh)))
def jyi:List (IOper×List Nat):=[(qM 0,[]),(qM 0,[]),(qN,[]),(qG 2,[]),(qG 1,[]),(qL,[]),(qA (.load 3 true (.g 4)),[0]),(qA (.bslice 39 3 [.nilSlice,.nilSlice,.nilSlice] 1 [(0,(3,qa))]),[1]),(qA (.app 39 3 72 qc qa),[]),(qP (.nchk (.l 8)),[]),(qG 2,[]),(qG 1,[]),(qA (.store 1 qa qd),[])]
def jyj:IC:=.region [qM 0,qN,qG 2,qG 1,qL,qP (.len qa),qP (.bin .sub qa (qC 1)),qT 2]
def jyk:IC:=.ret
def job:IB:=.seq (.c jyc) (.seq (.c jyd) (.seq (.seq (.c jye) (.block 0 (.loop jrd))) (.seq (.flo jyi) (.seq (.c jyj) (.c jyk)))))
theorem qdy:TB 16 true=some (.mk job 2 7 [(.tmp 2)]):=by kernel_rfl
def noB (_:FuncId):Bool:=false
theorem qp5:∀ f,noB f=true->qom Tryd.prog f:=fun f hf=>by cases hf
theorem qw2 {q:FB1} {fl:Bool} (hq:TB q.f fl=some (.mk q.ib q.nargs q.nslots q.res)):FbOk Tryd.prog tys q:=by
 obtain⟨fn,hfn,hcomp⟩:=jaa.1 (show ob (Tryd.prog.funcs[q.f]?) (qjs tys fl)=_ from hq)
 unfold qjs at hcomp
 split at hcomp
 .cases hcomp
 .rename_i b hb
  dsimp only at hcomp
  split at hcomp
  .rename_i c r hc hr
   cases hna:Nat.ble (fn.params.size+fn.nfree) fn.ntmps with
   | false=>rw[hna] at hcomp;cases hcomp
   | true =>
    rw[hna] at hcomp
    have h1:IFB.mk c (fn.params.size+fn.nfree) (jb2 (j6o (fn.params.size+fn.nfree) (jm8 (fn.params.size+fn.nfree) [] b) fn.results.toList)) r=.mk q.ib q.nargs q.nslots q.res:=Option.some.inj hcomp
    obtain⟨e1,e2,e3,e4⟩:=IFB.mk.inj h1
    rw[e1,e2] at hc
    rw[e2,e4] at hr
    refine⟨⟨fn,hfn,by rw[hb];rfl,?_⟩,fn,b,_,fl,hfn,hb,by rw[←e2];exact f0g hna,hc,hr⟩
    have:=f3b.1 qpn fn (by
     rw[←f02] at hfn
     exact f0c hfn)
    simpa using this
  .cases hcomp
def jg9:FB1:=⟨16,job,2,7,[(.tmp 2)]⟩
def F2:Fns:=BX noB jg9 F1
theorem qw3 {A:Nat->Int}:Env Tryd.prog A tys F1:=jhx qw0
theorem qw4 {A:Nat->Int}:Env Tryd.prog A tys F2:=qp4 qw3 qp5 (qw2 qdy)
theorem qp6:Base F1 where
 T:=fun f=>rfl
 pk:=fun vs h=>rfl
 no:=fun f hf vs h=>by
  have:S1 f=false:=by rcases hf with rfl | rfl | rfl | rfl | rfl | rfl<;>rfl
  exact(jbk this).trans qt9
theorem jio:Base F2 where
 T:=fun f=>rfl
 pk:=fun vs h=>j3f rfl
 no:=fun f hf vs h=>by
  have:Nat.beq f jg9.f=false:=by rcases hf with rfl | rfl | rfl | rfl | rfl | rfl<;>rfl
  exact(j3f this).trans (qp6.no f hf vs h)
theorem j3g {o:AO} {h:Hp} {v:AV}:(flE st fr o h v).ld=true:=rfl
theorem j9j {o:AO} {h h' h2:Hp} {v:AV} (k:jdy st fr h' o=some (v,h2)):(flE st fr o h v).ev h'=some (flE st fr o h v).v:=by
 show ob (jdy st fr h' o) (fun q=>some q.1)=some v
 rw[k];rfl
theorem j9k {b o n m z:Nat} {e:Bool}:eqN (.s (.slice b o n m e z)) (.s (.slice b o n m e z))=true:=by
 show oif (Nat.beq b b) (oif (Nat.beq o o) (oif (Nat.beq n n) (oif (Nat.beq m m) (oif (qh6 e e) (Nat.beq z z) false) false) false) false) false=true
 simp only[f1l]
 cases e<;>rfl
theorem Sl.eqN {α:Type} {h:Hp} {ty sz:Nat} {ex:Bool} {E:List SV->α->List Nat->Prop} {x:SV} {l:List α} {ns:List Nat} (k:Sl h ty sz ex E x l ns):eqN (.s x) (.s x)=true:=by
 rcases k with⟨_,rfl,_⟩ | ⟨_,b,rows,nss,rfl,_⟩
 .rfl
 .exact j9k
theorem j1j {a n:Nat}:List.range' a n++[a+n]=List.range' a (n+1):=by rw[List.range'_concat,Nat.one_mul]
theorem jta {h:Hp} {p bx:Nat} {w:Ms} {ns:List Nat} {cs:List Nat} {nsx:List Nat} (hns:∀ n∈ns,n<h.next) (hbx1:h.next<=bx) (hpos:1<=h.next) (hcs:∀ c∈cs,c<2) (hx:∀ n∈nsx,n<h.next/\n∉ns) (hlen:w.values.length+cs.length<=90000) {x2:AV} :
 ∀ (rest done:List Nat) (_:done++rest=cs) {hi:Hp} {ns' nsp:List Nat} {pp:SV} (_:Ok hi) (_:MR tt hi p { w with values:=w.values++done } ns') (_:Mv h hi ns ns') (_:bx<hi.next/\bx∉ns') (_:hi.get bx=some (.arr [pp,.nilSlice,.nilSlice] 39))
  (_:Sl hi 3 1 false EI pp (List.range' w.values.length done.length) nsp) (_:∀ n∈nsp,h.next<=n/\n<hi.next/\n∉ns'/\n≠bx) (_:nsp.Nodup) (_:Sl hi 3 1 true EI xo cs nsx) {x3 x6:AV}
  (hQ:∀ hj ns'' nsp' pp' x3 x6,Ok hj->MR tt hj p { w with values:=w.values++cs } ns''->Mv h hj ns ns''->bx<hj.next/\bx∉ns''->hj.get bx=some (.arr [pp',.nilSlice,.nilSlice] 39)->Sl hj 3 1 false EI pp' (List.range' w.values.length cs.length) nsp'->(∀ n∈nsp',h.next<=n/\n<hj.next/\n∉ns''/\n≠bx)->nsp'.Nodup ->
   Q (.exit 0) (.mk [.s (.ptr p 0),.s xo,x2,x3,.s (.ptr bx 0),.s xo,x6,vi cs.length,vi cs.length] hj)),
  WB F1 noB (.loop jrd) (.mk [.s (.ptr p 0),.s xo,x2,x3,.s (.ptr bx 0),.s xo,x6,vi cs.length,vi done.length] hi) Q
 | [],done,hdn,hi,ns',nsp,pp,ok,mr,mv,hb,hg,sp,lo,nd,sx,x3,x6,hQ=>by
  rw[f1c] at hdn
  subst hdn
  refine WB.loop ?_
  unfold jrd
  refine WB.seq (WB.c ?_)
  unfold jrb
  simp(disch:=first|omega|rfl) only[go_sem,f0s]
  refine WB.seq (WB.c ?_)
  unfold jrc
  simp(disch:=first|omega|rfl) only[go_sem]
  exact hQ hi _ _ _ _ _ ok mr mv hb hg sp lo nd
 | c::rest,done,hdn,hi,ns',nsp,pp,ok,mr,mv,hb,hg,sp,lo,nd,sx,x3,x6,hQ=>by
  have hlen1:done.length<cs.length:=by rw[←hdn];simp
  have hlt1:(done.length:Int)<cs.length:=by omega
  have hget:cs[done.length]?=some c:=by rw[←hdn];simp
  have hc2:=hcs c (f0c hget)
  obtain⟨ob1,orow,oms,oe1,oe2,oe3,⟨rfl,rfl⟩,oe5,oe6⟩:=sx.at hget
  have hob:=hx ob1 oe6
  refine WB.loop (WB.seq (WB.c ?_))
  unfold jrb
  simp(disch:=first|omega|rfl) only[go_sem,eq_true hlt1]
  refine WB.seq (WB.c ?_)
  unfold jrc
  simp(disch:=first|omega|rfl) only[go_sem]
  refine WB.seq (WB.block (WB.seq (WB.c ?_)))
  unfold jyf
  simp(disch:=first|omega|rfl) only[go_sem,oe1,oe2]
  refine WB.flo ?_
  unfold jyg
  refine WL.pure (v:=.s (.ptr bx 0)) (by simp only[go_sem]) ?_
  refine WL.ld (v:=.s pp) (h':=hi) rfl (by simp only[go_sem,hg]) (by simp) sp.eqN ?_
  refine WL.pure (v:=.s (.ptr p 0)) (by simp only[go_sem]) ?_
  refine WL.pure (v:=vi c) (by simp only[go_sem]) ?_
  refine WL.call (vs:=[.s (.ptr p 0),vi c]) (by simp only[go_sem]) ?_
  refine WC.imp (j3a qp6 ok mr c hc2 (by simp;omega)) ?_
  rintro _ h2 ⟨rfl,ns2,mr2,mv2⟩
  have ok2:=mv2.ok
  have g2:∀ n,n<hi.next->n∉ns'->h2.get n=hi.get n:=mv2.keep
  have b2:h2.get bx=some (.arr [pp,.nilSlice,.nilSlice] 39):=(g2 bx hb.1 hb.2).trans hg
  refine⟨fun j hj=>by simp at hj;subst hj;exact⟨_,rfl,j3g,j9j (h2:=h2) (by simp only[go_sem,b2]),sp.eqN⟩,?_⟩
  have hk:(w.values++done).length=w.values.length+done.length:=by simp
  have hkk:({ w with values:=w.values++done }:Ms).values.length=w.values.length+done.length:=hk
  rw[hkk]
  have p2:∀ n,n<h2.next->(h2.push (AB.arr [si ((w.values.length+done.length:Nat):Int)] 3)).get n=h2.get n:=fun n hn=>by rw[ja6 ok2,if_neg (by omega)]
  refine WL.mem (v:=.s (.slice h2.next 0 1 1 true 1)) (h':=h2.push (AB.arr [si ((w.values.length+done.length:Nat):Int)] 3)) rfl rfl (by simp(disch:=first|omega|rfl) only[go_sem]) (fun j hj=>by simp at hj;subst hj;exact⟨_,rfl,j3g,j9j (h2:=h2.push (AB.arr [si ((w.values.length+done.length:Nat):Int)] 3)) (by have:=(p2 bx (by have:=mv2.nx;omega)).trans b2;simp only[go_sem,this]),sp.eqN⟩) ?_
  have sp2:=sp.keep (h':=h2) (fun n hn=>g2 n (lo n hn).2.1 (lo n hn).2.2.1)
  have mn2:=mv2.nx
  obtain⟨h4,e4,ok4,n4,kp4,kt4,sl4⟩:=sp2.app1 (bytes:=8) (row:=[si ((w.values.length+done.length:Nat):Int)]) (a:=w.values.length+done.length) (ms:=[]) ok2 (fun n hn=>by have:=lo n hn;omega) rfl ⟨rfl,rfl⟩ (by rw[List.length_range'];omega) (by rw[List.length_range'];omega)
  have sl5:=sl4 (E':=EI) (fun _ _ _ _ h=>h)
  rw[List.length_range'] at e4 sl5
  rw[j1j] at sl5
  refine WL.mem (v:=.s (.slice (h2.next+1) 0 (done.length+1) (done.length+1) false 1)) (h':=h4) rfl rfl (by simp only[go_sem,e4]) (fun j hj=>by simp at hj) ?_
  refine WL.pure (v:=.s (.ptr bx 0)) (by simp only[go_sem]) ?_
  have bnp:bx∉nsp:=fun h1=>(lo bx h1).2.2.2 rfl
  have b4:h4.get bx=some (.arr [pp,.nilSlice,.nilSlice] 39):=(kp4 bx (by omega) bnp).trans b2
  refine WL.mem (v:=.undef) (h':=h4.put bx (some (.arr [.slice (h2.next+1) 0 (done.length+1) (done.length+1) false 1,.nilSlice,.nilSlice] 39))) rfl rfl (by simp(disch:=first|omega|rfl) only[go_sem,b4]) (fun j hj=>by simp at hj) ?_
  refine WL.nil ?_
  obtain⟨h5,e5⟩:∃ h5,h5=h4.put bx (some (.arr [.slice (h2.next+1) 0 (done.length+1) (done.length+1) false 1,.nilSlice,.nilSlice] 39)):=⟨_,rfl⟩
  rw[←e5]
  have hbp:1<=bx:=by omega
  have ok5:Ok h5:=by rw[e5];exact jas ok4
  have g5:∀ n,n≠bx->h5.get n=h4.get n:=fun n hn=>by rw[e5,jak ok4 hbp,if_neg hn]
  have b5:h5.get bx=some (.arr [.slice (h2.next+1) 0 (done.length+1) (done.length+1) false 1,.nilSlice,.nilSlice] 39):=by rw[e5,jak ok4 hbp,if_pos rfl]
  have n5:h5.next=h2.next+2:=by rw[e5,Hp.next_put,n4]
  clear e5
  refine WB.c ?_
  unfold jyh
  have hlen2:(done++[c]).length=done.length+1:=by simp
  have hsucc:((done.length:Int)+1)=(((done++[c]).length:Nat):Int):=by rw[hlen2];omega
  simp(disch:=first|omega|rfl) only[go_sem,jad,hsucc]
  have bn2:bx∉ns2:=fun h1=>by
   rcases mv2.new bx h1 with h3 | h3
   .exact hb.2 h3
   .omega
  have lt2:=fun n hn=>(mr2.lt n hn).2
  have ns2p:∀ n∈ns2,n∉nsp:=fun n hn h1=>by
   rcases mv2.new n hn with h3 | h3
   .exact (lo n h1).2.2.1 h3
   .have:=(lo n h1).2.1;omega
  have k5:∀ n∈ns2,h5.get n=h2.get n:=fun n hn=>(g5 n (fun e=>bn2 (e▸hn))).trans (kp4 n (lt2 n hn) (ns2p n hn))
  have mr5:=mr2.keep (h':=h5) k5 (by omega)
  have hns':∀ n,n<h.next->n∉ns->n∉ns':=fun n h1 h3 h4'=>by
   rcases mv.new n h4' with h5' | h5'
   .exact h3 h5'
   .omega
  have old5:∀ n,n<h.next->n∉ns->h5.get n=hi.get n:=fun n h1 h3=>(g5 n (by omega)).trans ((kp4 n (by have:=mv.nx;omega) (fun h4'=>by have:=(lo n h4').1;omega)).trans (g2 n (by have:=mv.nx;omega) (hns' n h1 h3)))
  have mv5:Mv h h5 ns ns2:=⟨ok5,by have:=mv.nx;omega,fun n hn=>(mv.trans mv2).new n hn,fun n h1 h3=>(old5 n h1 h3).trans (mv.keep n h1 h3)⟩
  have sl6:Sl h5 3 1 false EI (.slice (h2.next+1) 0 (done.length+1) (done.length+1) false 1) (List.range' w.values.length (done++[c]).length) ((h2.next+1)::(nsp.tail++[])):=by
   rw[hlen2]
   exact sl5.keep (fun n hn=>g5 n (by
    rcases f0j.1 hn with rfl | hn
    .omega
    .exact (lo n (f0o (by simpa using hn))).2.2.2))
  refine jta hns hbx1 hpos hcs hx hlen rest (done++[c]) (by rw[←hdn];simp) ok5 (by simpa[f0l] using mr5) mv5 ⟨by omega,bn2⟩ b5 sl6 (fun n hn=>?_) ?_ (sx.keep (fun n hn=>old5 n (hx n hn).1 (hx n hn).2)) hQ
  .rcases f0j.1 hn with rfl | hn
   .exact ⟨by omega,by omega,fun h1=>by have:=lt2 _ h1;omega,by omega⟩
   .have h1:=f0o (by simpa using hn)
    exact⟨(lo n h1).1,by have:=(lo n h1).2.1;omega,fun h3=>ns2p n h3 h1,(lo n h1).2.2.2⟩
  .exact jdk nd .nil (by simp) (fun h1=>by have:=(lo _ h1).2.1;omega) (by simp)
theorem Wok.block {w:Ms} {N:Nat} (wk:Wok w N) (cs:List Nat) (h1:cs.length<=2) (h2:∀ c∈cs,c<2):Wok (jaf w cs) (N+2):=by
 unfold jaf
 refine⟨wk.m1,wk.m2,fun c hc=>?_,fun v hv=>by have:=wk.known v hv;simp;omega,by have:=wk.cur;simp;omega,by have:=wk.nv;simp;omega,by have:=wk.nb;simp;omega,f1q wk.nk,fun b hb=>?_,f1q wk.na⟩
 .rcases f0e.1 hc with h | h
  .exact wk.vals c h
  .exact h2 c h
 .rcases f0e.1 hb with h | h
  .have:=wk.ni b h;omega
  .obtain rfl:=f0q.1 h
   simp;omega
theorem jvs {h:Hp} {p:Nat} {w:Ms} {ns:List Nat} (ok:Ok h) (mr:MR tt h p w ns) {N:Nat} (hnv:w.values.length<=N) (hnb:w.blocks.length<=N) (hN:N<=79000) {cs:List Nat} {nsx:List Nat} (sx:Sl h 3 1 true EI xo cs nsx) (hc:cs.length<=2) (hcs:∀ c∈cs,c<2) (hx:∀ n∈nsx,n<h.next/\n∉ns) :
 WC F2 16 [.s (.ptr p 0),.s xo] h (fun v h'=>v=vi w.blocks.length/\∃ ns',MR tt h' p (jaf w cs) ns'/\Mv h h' ns ns'):=by
 refine quc (q:=jg9) rfl ?_
 show WB F1 noB job (.mk _ h) (qc5 [(.tmp 2)] _)
 unfold job
 have hpos:=ok.pos
 refine WB.seq (WB.c ?_)
 unfold jyc
 simp(disch:=first|omega|rfl) only[go_sem]
 refine WB.seq (WB.c ?_)
 unfold jyd
 obtain⟨hA,eA⟩:∃ hA,hA=(h.push (AB.arr [.nilSlice,.nilSlice,.nilSlice] 39)).put h.next (some (AB.arr [.nilSlice,.nilSlice,.nilSlice] 39)):=⟨_,rfl⟩
 have okA:Ok hA:=by rw[eA];exact jas (ja4 ok)
 have gA:∀ n,n<h.next->hA.get n=h.get n:=fun n hn=>by
  rw[eA,jak (ja4 ok) hpos,ja6 ok,if_neg (by omega),if_neg (by omega)]
 have oA:hA.get h.next=some (AB.arr [.nilSlice,.nilSlice,.nilSlice] 39):=by
  rw[eA,jak (ja4 ok) hpos,if_pos rfl]
 have nA:hA.next=h.next+1:=by rw[eA,Hp.next_put,Hp.next_push]
 simp(disch:=first|omega|rfl) only[go_sem]
 rw[←eA]
 clear eA
 refine WB.seq (WB.seq (WB.c ?_))
 unfold jye
 have lx:=sx.len
 simp(disch:=first|omega|rfl) only[go_sem,lx]
 have hns:∀ n∈ns,n<h.next:=fun n hn=>(mr.lt n hn).2
 have mrA:=mr.keep (h':=hA) (fun n hn=>gA n (hns n hn)) (by omega)
 have mvA:Mv h hA ns ns:=⟨okA,by omega,fun n hn=>.inl hn,fun n h1 h2=>gA n h1⟩
 refine WB.block (jta (w:=w) (bx:=h.next) (nsp:=[]) (pp:=.nilSlice) hns (f0d _) hpos hcs hx (by omega) cs [] rfl okA (by simpa using mrA) mvA ⟨by omega,fun h1=>by have:=hns _ h1;omega⟩ oA Sl.nil (by simp) .nil (sx.keep (fun n hn=>gA n (hx n hn).1)) ?_)
 intro hj ns2 nsp pp x3 x6 okj mrj mvj hbj gj sp lo nd
 refine WB.seq (WB.flo ?_)
 unfold jyi
 obtain⟨⟨av,bv,kv,n1,n2,n3,hg,hv,hb,hk,rfl⟩,hd,hlt⟩:=mrj
 have hp:=hlt p (by simp)
 have hpb:p≠h.next:=fun e=>hbj.2 (by simp[←e])
 have hfb:∀ n∈nsp,n≠h.next:=fun n hn=>(lo n hn).2.2.2
 refine WL.pure (v:=.s (.ptr p 0)) (by simp only[go_sem]) ?_
 refine WL.pure (v:=.s (.ptr p 0)) (by simp only[go_sem]) ?_
 refine WL.pure (v:=.s (.ptr p 0)) (by simp only[go_sem]) ?_
 refine WL.pure (v:=.s (.ptr p 2)) (by simp only[go_sem]) ?_
 refine WL.pure (v:=.s (.ptr p 3)) (by simp only[go_sem]) ?_
 refine WL.ld (v:=.s bv) (h':=hj) rfl (by simp only[go_sem,hg]) (by simp) hb.eqN ?_
 have hag:eqN (.agg [pp,.nilSlice,.nilSlice]) (.agg [pp,.nilSlice,.nilSlice])=true:=by
  have:qjf pp pp=true:=sp.eqN
  show oif (qjf pp pp) (oif true (oif true true false) false) false=true
  rw[this];rfl
 refine WL.ld (v:=.agg [pp,.nilSlice,.nilSlice]) (h':=hj) rfl (by simp only[go_sem,gj]) (fun j hj=>by simp at hj;subst hj;exact⟨_,rfl,.inl j3g⟩) hag ?_
 have p2:∀ n,n<hj.next->(hj.push (AB.arr [pp,.nilSlice,.nilSlice] 39)).get n=hj.get n:=fun n hn=>by rw[ja6 okj,if_neg (by omega)]
 refine WL.mem (v:=.s (.slice hj.next 0 1 1 true 3)) (h':=hj.push (AB.arr [pp,.nilSlice,.nilSlice] 39)) rfl rfl (by simp(disch:=first|omega|rfl) only[go_sem]) (fun j hj'=>by simp at hj';subst hj';exact⟨_,rfl,j3g,j9j (h2:=hj.push (AB.arr [pp,.nilSlice,.nilSlice] 39)) (by have:=(p2 p hp.2).trans hg;simp only[go_sem,this]),hb.eqN⟩) ?_
 have hEB:EB tt hj [pp,.nilSlice,.nilSlice] (⟨List.range' w.values.length cs.length,[],[]⟩:Blk) nsp:=⟨pp,_,_,nsp,[],[],rfl,sp,Sl.nil,Sl.nil,by simp⟩
 obtain⟨h4,e4,ok4,n4,kp4,kt4,sl4⟩:=hb.app1 (bytes:=72) (row:=[pp,.nilSlice,.nilSlice]) (a:=(⟨List.range' w.values.length cs.length,[],[]⟩:Blk)) (ms:=nsp) okj (fun n hn=>hlt n (by simp[hn])) rfl hEB (by simp only;omega) (by simp only;omega)
 refine WL.mem (v:=.s (.slice (hj.next+1) 0 (w.blocks.length+1) (w.blocks.length+1) false 3)) (h':=h4) rfl rfl (by simp only[go_sem];exact e4) (fun j hj=>by simp at hj) ?_
 refine WL.pure (v:=.s (.ptr p 0)) (by simp only[go_sem]) ?_
 refine WL.pure (v:=.s (.ptr p 2)) (by simp only[go_sem]) ?_
 refine WL.pure (v:=.s (.ptr p 3)) (by simp only[go_sem]) ?_
 have hpn2:p∉n2:=fun e=>(f0w.1 hd).1 (by simp[e])
 have p4:h4.get p=_:=(kp4 p hp.2 hpn2).trans hg
 refine WL.mem (v:=.undef) (h':=h4.put p (some (.arr [si w.m.1,si w.m.2,av,.slice (hj.next+1) 0 (w.blocks.length+1) (w.blocks.length+1) false 3,si w.cur,kv,si w.all] tt.mas))) rfl rfl (by simp(disch:=first|omega|rfl) only[go_sem,p4]) (fun j hj=>by simp at hj) ?_
 refine WL.nil ?_
 have hdt:=(f0w.1 hd).2
 have hd1:=f0r.1 hdt
 have hd2:=f0r.1 hd1.2.1
 have k1:∀ n∈n1,h4.get n=hj.get n:=fun n hn=>kp4 n (hlt n (by simp[hn])).2 (fun h1=>hd1.2.2 n hn n (by simp[h1]) rfl)
 have k3:∀ n∈n3,h4.get n=hj.get n:=fun n hn=>kp4 n (hlt n (by simp[hn])).2 (fun h1=>hd2.2.2 n h1 n hn rfl)
 have k2:∀ n∈n2.tail,h4.get n=hj.get n:=fun n hn=>kt4 n hn hd2.1
 have hfn:∀ n∈nsp,n∉p::(n1++(n2++n3)):=fun n hn=>(lo n hn).2.2.1
 have k4:∀ n∈nsp,h4.get n=hj.get n:=fun n hn=>kp4 n (lo n hn).2.1 (fun h1=>hfn n hn (by simp[h1]))
 have sb:=sl4 (E':=EB tt h4) (fun row a m hm k=>k.keep (fun n hn=>by
  rcases hm n hn with h1 | h1
  .exact k2 n h1
  .exact k4 n h1))
 have nd2:((hj.next+1)::(n2.tail++nsp)).Nodup:=jdk hd2.1 nd (fun n hn h1=>hfn n hn (by simp[h1])) (fun h1=>by have:=(hlt (hj.next+1) (by simp[h1])).2;omega) (fun h1=>by have:=(lo _ h1).2.1;omega)
 have nd3:(n1++(((hj.next+1)::(n2.tail++nsp))++n3)).Nodup:=jhr hdt nd2 (fun n hn=>by
  rcases f0j.1 hn with rfl | hn
  .exact .inr (fun h1=>by have:=(hlt (hj.next+1) (f04 _ h1)).2;omega)
  .rcases f0e.1 hn with hn | hn
   .exact .inl (f0o hn)
   .exact .inr (fun h1=>hfn n hn (f04 _ h1)))
 have mem3:∀ n∈n1++(((hj.next+1)::(n2.tail++nsp))++n3),n∈n1++(n2++n3)∨n=hj.next+1∨n∈nsp:=fun n hn=>by
  rcases f0e.1 hn with hn | hn
  .exact .inl (by simp[hn])
  .rcases f0e.1 hn with hn | hn
   .rcases f0j.1 hn with rfl | hn
    .exact .inr (.inl rfl)
    .rcases f0e.1 hn with hn | hn
     .exact .inl (by simp[f0o hn])
     .exact .inr (.inr hn)
   .exact .inl (by simp[hn])
 have nd4:(p::(n1++(((hj.next+1)::(n2.tail++nsp))++n3))).Nodup:=f0w.2 ⟨fun h1=>by
  rcases mem3 p h1 with h3 | h3 | h3
  .exact (f0w.1 hd).1 h3
  .omega
  .exact hfn p h3 (by simp),nd3⟩
 have lt4:∀ n∈p::(n1++(((hj.next+1)::(n2.tail++nsp))++n3)),1<=n/\n<h4.next:=fun n hn=>by
  rcases f0j.1 hn with rfl | hn
  .omega
  .rcases mem3 n hn with h3 | h3 | h3
   .have:=hlt n (f04 _ h3);omega
   .omega
   .have:=lo n h3;omega
 have mr6:=MR.mk_put (t:=tt) (w':=jaf w cs) (a:=av) (b:=.slice (hj.next+1) 0 (w.blocks.length+1) (w.blocks.length+1) false 3) (k:=kv) ok4 (hv.keep k1) sb (hk.keep k3) nd4 lt4
 have mv6:Mv h (h4.put p (some (.arr [si w.m.1,si w.m.2,av,.slice (hj.next+1) 0 (w.blocks.length+1) (w.blocks.length+1) false 3,si w.cur,kv,si w.all] tt.mas))) ns (p::(n1++(((hj.next+1)::(n2.tail++nsp))++n3))):=by
  have hnx:=mvj.nx
  refine⟨jas ok4,by rw[Hp.next_put];omega,fun n hn=>?_,fun n h1 h3=>?_⟩
  .rcases f0j.1 hn with rfl | hn
   .exact mvj.new n (by simp)
   .rcases mem3 n hn with h3 | h3 | h3
    .exact mvj.new n (f04 _ h3)
    .exact .inr (by omega)
    .exact .inr (lo n h3).1
  .have hno:n∉p::(n1++(n2++n3)):=fun h5=>by
    rcases mvj.new n h5 with h6 | h6
    .exact h3 h6
    .omega
   rw[jak ok4 hp.1,if_neg (fun e=>hno (by simp[e])),kp4 n (by omega) (fun h5=>hno (by simp[h5]))]
   exact mvj.keep n h1 h3
 have ok6:=mv6.ok
 have g6:(h4.put p (some (.arr [si w.m.1,si w.m.2,av,.slice (hj.next+1) 0 (w.blocks.length+1) (w.blocks.length+1) false 3,si w.cur,kv,si w.all] tt.mas))).get p=some (.arr [si w.m.1,si w.m.2,av,.slice (hj.next+1) 0 (w.blocks.length+1) (w.blocks.length+1) false 3,si w.cur,kv,si w.all] tt.mas):=by
  rw[jak ok4 hp.1,if_pos rfl]
 refine WB.seq (WB.c ?_)
 unfold jyj
 have hs:(((w.blocks.length+1:Nat):Int) - 1)=(w.blocks.length:Int):=by omega
 simp(disch:=first|omega|rfl) only[go_sem,g6,jad,hs]
 refine WB.c ?_
 unfold jyk
 simp(disch:=first|omega|rfl) only[go_sem]
 exact⟨_,mr6,mv6⟩
def qss (size:Nat) (x y:Option AV):Option AV:=ob x (fun v=>jcz v
 (ob (ob y (fun x=>jn3 x (fun _ n=>Int.casesOn (motive:=fun _=>Option Nat) n (fun m=>some m) (fun _=>none)))) (fun hi'=>oif (Nat.beq (Nat.add hi' 0) 0) (some (AV.s .nilSlice)) none))
 (fun b off len mc ex sz=>ob (ob y (fun x=>jn3 x (fun _ n=>Int.casesOn (motive:=fun _=>Option Nat) n (fun m=>some m) (fun _=>none)))) (fun hi' =>
  oif (Nat.ble hi' mc) (oif (Nat.ble 0 hi') (oif (Nat.beq sz size) (some (AV.s (.slice b (Nat.add off (Nat.mul 0 size)) (Nat.sub hi' 0) (Nat.sub mc 0) ex sz))) none) none) none))
 (fun rows=>ob (ob y (fun x=>jn3 x (fun _ n=>Int.casesOn (motive:=fun _=>Option Nat) n (fun m=>some m) (fun _=>none)))) (fun hi' =>
  oif (Nat.ble hi' (jb2 rows)) (oif (Nat.ble 0 hi') (oif (j6d size rows) (ob (jbp (Nat.sub hi' 0) (jb4 0 rows)) (fun r=>some (AV.s (.lst r)))) none) none) none))
 (ob (ob y (fun x=>jn3 x (fun _ n=>Int.casesOn (motive:=fun _=>Option Nat) n (fun m=>some m) (fun _=>none)))) (fun hi'=>oif (Nat.beq (Nat.add hi' 0) 0) (some (AV.s .emp)) none)))
theorem jip {x y:Od}:pop st fr (.slice size x none (some y))=qss size (ev st fr x) (ev st fr y):=rfl
theorem qjt {b off len mc k:Nat} {ex:Bool} (hk:k<=mc):qss size (some (AV.s (.slice b off len mc ex size))) (some (vi (k:Int)))=some (AV.s (.slice b off k mc ex size)):=by
 show oif (Nat.ble k mc) (oif (Nat.ble 0 k) (oif (Nat.beq size size) (some (AV.s (SV.slice b (Nat.add off (Nat.mul 0 size)) (Nat.sub k 0) (Nat.sub mc 0) ex size))) none) none) none=_
 rw[show Nat.ble k mc=true from f3d hk,show Nat.ble 0 k=true from f3d (f14 _),f1l]
 show some (AV.s (SV.slice b (off+0*size) (k - 0) (mc - 0) ex size))=_
 simp
structure FS (h0 hi:Hp) (p:Nat) (w:Ms) (ns:List Nat) (L:List (Nat×AB)) (ns':List Nat):Prop where
 ok:Ok hi
 mr:MR tt hi p w ns'
 mv:Mv h0 hi ns ns'
 kp:∀ q∈L,hi.get q.1=some q.2/\h0.next<=q.1/\q.1<hi.next/\q.1∉ns'
section
variable {h0 hi:Hp} {p:Nat} {w:Ms} {ns ns':List Nat} {L:List (Nat×AB)}
theorem FS.pos (k:FS h0 hi p w ns L ns'):1<=hi.next:=by
 obtain⟨⟨a,b,c,n1,n2,n3,h1,h2,h3,h4,e⟩,h5,h6⟩:=k.mr
 have:=h6 p (by simp[e]);omega
theorem FS.sub {L':List (Nat×AB)} (k:FS h0 hi p w ns L ns') (h:∀ q∈L',q∈L):FS h0 hi p w ns L' ns':=⟨k.ok,k.mr,k.mv,fun q hq=>k.kp q (h q hq)⟩
theorem FS.step {h2:Hp} (k:FS h0 hi p w ns L ns') (m:MR tt h2 p w2 ns2) (v:Mv hi h2 ns' ns2):FS h0 h2 p w2 ns L ns2 :=
 ⟨v.ok,m,k.mv.trans v,fun q hq=>by
  obtain⟨h1,h3,h4,h5⟩:=k.kp q hq
  refine⟨(v.keep _ h4 h5).trans h1,h3,f0m h4 v.nx,fun h6=>?_⟩
  rcases v.new _ h6 with h7 | h7
  .exact h5 h7
  .omega⟩
theorem FS.step1 {h2:Hp} {b:Nat} {a:AB} (k:FS h0 hi p w ns ((b,a)::L) ns') (hb:∀ q∈L,q.1≠b) (m:MR tt h2 p w2 ns2) (v:Mv hi h2 (ns'++[b]) ns2):FS h0 h2 p w2 ns L ns2:=by
 have hb0:=k.kp (b,a) (by simp)
 have hmv:=k.mv
 refine⟨v.ok,m,⟨v.ok,f01 hmv.nx v.nx,fun n hn=>?_,fun n h1 h3=>?_⟩,fun q hq=>?_⟩
 .rcases v.new n hn with h1 | h1
  .rcases f0e.1 h1 with h3 | h3
   .exact hmv.new n h3
   .obtain rfl:=f0q.1 h3;exact .inr hb0.2.1
  .exact .inr (f01 hmv.nx h1)
 .rw [v.keep n (f0m h1 hmv.nx) (fun h5=>by
   rcases f0e.1 h5 with h6 | h6
   .rcases hmv.new n h6 with h7 | h7
    .exact h3 h7
    .omega
   .obtain rfl:=f0q.1 h6;have:=hb0.2.1;simp only at this;omega)]
  exact hmv.keep n h1 h3
 .obtain ⟨h1,h3,h4,h5⟩:=k.kp q (f04 _ hq)
  refine⟨(v.keep _ h4 (fun h6=>by
   rcases f0e.1 h6 with h7 | h7
   .exact h5 h7
   .exact hb q hq (f0q.1 h7))).trans h1,h3,f0m h4 v.nx,fun h6=>?_⟩
  rcases v.new _ h6 with h7 | h7
  .rcases f0e.1 h7 with h8 | h8
   .exact h5 h8
   .exact hb q hq (f0q.1 h8)
  .omega
theorem FS.push {a:AB} (k:FS h0 hi p w ns L ns'):FS h0 (hi.push a) p w ns ((hi.next,a)::L) ns':=by
 have g:∀ n,n<hi.next->(hi.push a).get n=hi.get n:=fun n hn=>by rw[ja6 k.ok,if_neg (by omega)]
 have hmv:=k.mv
 have hnx:=hmv.nx
 refine⟨ja4 k.ok,k.mr.keep (fun n hn=>g n (k.mr.lt n hn).2) (by rw[Hp.next_push];omega),⟨ja4 k.ok,by rw[Hp.next_push];omega,hmv.new,fun n h1 h3=>(g n (by omega)).trans (hmv.keep n h1 h3)⟩,fun q hq=>?_⟩
 rcases f0j.1 hq with rfl | hq
 .exact ⟨by rw[ja6 k.ok,if_pos rfl],hnx,by rw[Hp.next_push];omega,fun h1=>by have:=(k.mr.lt _ h1).2;omega⟩
 .obtain ⟨h1,h3,h4,h5⟩:=k.kp q hq
  exact⟨(g _ h4).trans h1,h3,by rw[Hp.next_push];omega,h5⟩
theorem FS.put {b:Nat} {a a':AB} (k:FS h0 hi p w ns ((b,a)::L) ns') (hb:∀ q∈L,q.1≠b) (hpos:1<=h0.next):FS h0 (hi.put b (some a')) p w ns ((b,a')::L) ns':=by
 obtain⟨h1,h3,h4,h5⟩:=k.kp (b,a) (by simp)
 have hb1:1<=b:=f01 hpos h3
 have g:∀ n,n≠b->(hi.put b (some a')).get n=hi.get n:=fun n hn=>by rw[jak k.ok hb1,if_neg hn]
 have hmv:=k.mv
 have hnx:=hmv.nx
 simp only at h3 h5
 refine⟨jas k.ok,k.mr.keep (fun n hn=>g n (fun e=>h5 (e▸hn))) (by rw[Hp.next_put];omega),⟨jas k.ok,by rw[Hp.next_put];omega,hmv.new,fun n h6 h7=>(g n (by omega)).trans (hmv.keep n h6 h7)⟩,fun q hq=>?_⟩
 rcases f0j.1 hq with rfl | hq
 .exact ⟨by rw[jak k.ok hb1,if_pos rfl],h3,by rw[Hp.next_put];exact h4,h5⟩
 .obtain ⟨h6,h7,h8,h9⟩:=k.kp q (f04 _ hq)
  exact⟨(g _ (hb q hq)).trans h6,h7,by rw[Hp.next_put];exact h8,h9⟩
theorem FS.cells (k:FS h0 hi p w ns L ns'):∃ a b c,hi.get p=some (.arr [si w.m.1,si w.m.2,a,b,si w.cur,c,si w.all] tt.mas)/\j0b (.s c)=some (vi w.known.length)/\j0b (.s b)=some (vi w.blocks.length):=by
 obtain⟨⟨a,b,c,n1,n2,n3,h1,h2,h3,h4,e⟩,h5,h6⟩:=k.mr
 exact⟨a,b,c,h1,h4.len,h3.len⟩
theorem FS.setcur {a b c:SV} {j:Nat} (k:FS h0 hi p w ns L ns') (hg:hi.get p=some (.arr [si w.m.1,si w.m.2,a,b,si w.cur,c,si w.all] tt.mas)):FS h0 (hi.put p (some (.arr [si w.m.1,si w.m.2,a,b,si j,c,si w.all] tt.mas))) p { w with cur:=j } ns L ns':=by
 obtain⟨⟨a',b',c',n1,n2,n3,h1,h2,h3,h4,e⟩,h5,h6⟩:=id k.mr
 subst e
 rw[h1] at hg
 simp only[Option.some.injEq,AB.arr.injEq,List.cons.injEq] at hg
 obtain⟨⟨_,_,rfl,rfl,_,rfl,_⟩,_⟩:=hg
 have hp:=h6 p (by simp)
 refine k.step (MR.mk_put (w':={ w with cur:=j }) k.ok h2 h3 h4 h5 h6) ⟨jas k.ok,by rw[Hp.next_put];omega,fun n hn=>.inl hn,fun n h7 h8=>?_⟩
 rw[jak k.ok hp.1,if_neg (fun e=>h8 (by simp[e]))]
end
section
variable {h0 hi:Hp} {p:Nat} {w:Ms} {ns ns':List Nat} {L:List (Nat×AB)} {N:Nat}
theorem jje (k:FS h0 hi p w ns L ns') (wk:Wok w N) (hN:N<=79000) {pc:Pc} (pin:Pin pc):WC F2 19 [.s (.ptr p 0),.agg (jce pc)] hi (fun v h'=>v=.tup []/\∃ ns'',FS h0 h' p (jcu w pc) ns L ns'') :=
 WC.imp (qfk jio k.ok k.mr wk (by omega) pc pin) (fun v h' ⟨e,ns2,m,mv⟩=>⟨e,ns2,k.step m mv⟩)
theorem jha (k:FS h0 hi p w ns L ns') (wk:Wok w N) (hN:N<=79000) {cls:Nat} (hc:cls<2) {pc:Pc} (pin:Pin pc):WC F2 26 [.s (.ptr p 0),vi cls,.agg (jce pc)] hi (fun v h'=>v=vi (jac w cls pc).1/\∃ ns'',FS h0 h' p (jac w cls pc).2 ns L ns'') :=
 WC.imp (j9i jio k.ok k.mr wk hN cls hc pc pin) (fun v h' ⟨e,ns2,m,mv⟩=>⟨e,ns2,k.step m mv⟩)
theorem jlf (k:FS h0 hi p w ns L ns') (wk:Wok w N) (hN:N<=79000):WC F2 16 [.s (.ptr p 0),.s .nilSlice] hi (fun v h'=>v=vi w.blocks.length/\∃ ns'',FS h0 h' p (jaf w []) ns L ns'') :=
 WC.imp (jvs k.ok k.mr wk.nv wk.nb hN (cs:=[]) (nsx:=[]) Sl.nil (by simp) (by simp) (by simp)) (fun v h' ⟨e,ns2,m,mv⟩=>⟨e,ns2,k.step m mv⟩)
theorem j9l {hi:Hp} {b c d ty:Nat} (h:hi.get b=some (.arr [si c,si d] ty)):Sl hi ty 1 true EI (.slice b 0 2 2 true 1) [c,d] [b] :=
 .inr ⟨by simp,b,[[si c],[si d]],[],rfl,h,by
  have:=Rows.cons (sz:=1) (E:=EI) (row:=[si c]) (a:=c) (ns:=[]) rfl ⟨rfl,rfl⟩ (Rows.cons (sz:=1) (E:=EI) (row:=[si d]) (a:=d) (ns:=[]) rfl ⟨rfl,rfl⟩ .nil)
  exact this,rfl⟩
theorem jyl {b c:Nat} (k:FS h0 hi p w ns ((b,.arr [si c,si (0:Nat)] 3)::L) ns') (wk:Wok w N) (hN:N<=79000) (hc:c<2):WC F2 16 [.s (.ptr p 0),.s (.slice b 0 2 2 true 1)] hi (fun v h'=>v=vi w.blocks.length/\∃ ns'',FS h0 h' p (jaf w [c,0]) ns L ns''):=by
 obtain⟨h1,h2,h3,h4⟩:=k.kp _ (f07 ..)
 refine WC.imp (jvs k.ok k.mr wk.nv wk.nb hN (cs:=[c,0]) (nsx:=[b]) (j9l h1) (by simp) (fun x hx=>?_) (fun n hn=>?_)) (fun v h' ⟨e,ns2,m,mv⟩=>⟨e,ns2,(k.step m mv).sub (fun q hq=>f04 _ hq)⟩)
 .simp at hx;omega
 .obtain rfl:=f0q.1 hn;exact⟨h3,h4⟩
theorem joc (k:FS h0 hi p w ns L ns') (wk:Wok w N) (hN:N<=79000) {a to:Nat} (ha:a<w.blocks.length):WC F2 25 [.s (.ptr p 0),vi a,vi to,.s .nilSlice] hi (fun v h'=>v=.tup []/\∃ ns'',FS h0 h' p (jav w a to []) ns L ns'') :=
 WC.imp (j9h jio k.ok k.mr wk (by omega) (args:=[]) (n1:=[]) ha Sl.nil .nil (by simp)) (fun v h' ⟨e,ns2,m,mv⟩=>⟨e,ns2,k.step m (by simpa using mv)⟩)
theorem jvt {b x y:Nat} (k:FS h0 hi p w ns ((b,.arr [si x,si y] 3)::L) ns') (hb:∀ q∈L,q.1≠b) (hpos:1<=h0.next) (wk:Wok w N) (hN:N<=79000) {a to:Nat} (ha:a<w.blocks.length):WC F2 25 [.s (.ptr p 0),vi a,vi to,.s (.slice b 0 2 2 true 1)] hi (fun v h'=>v=.tup []/\∃ ns'',FS h0 h' p (jav w a to [x,y]) ns L ns''):=by
 obtain⟨h1,h2,h3,h4⟩:=k.kp _ (f07 ..)
 refine WC.imp (j9h jio k.ok k.mr wk (by omega) (args:=[x,y]) (n1:=[b]) ha (j9l h1) (by simp) (fun n hn=>?_)) (fun v h' ⟨e,ns2,m,mv⟩=>⟨e,ns2,k.step1 hb m mv⟩)
 obtain rfl:=f0q.1 hn
 simp only at h2 h3
 exact⟨by omega,h3,h4⟩
theorem FS.setknown {a b y:SV} {n1 n2 n3 n3':List Nat} {kn:List Nat} (k:FS h0 hi p w ns L (p::(n1++(n2++n3)))) (hv:Sl hi tt.int 1 false EI a w.values n1) (hb:Sl hi tt.blk 3 false (EB tt hi) b w.blocks n2) {h2:Hp} (ok2:Ok h2) (nx:hi.next<=h2.next)
 (kp:∀ n,n<hi.next->n∉n3->h2.get n=hi.get n) (hk:Sl h2 tt.int 1 false EI y kn n3') (nd:n3'.Nodup) (hn:∀ n∈n3',(n∈n3∨hi.next<=n)/\n<h2.next) :
 FS h0 (h2.put p (some (.arr [si w.m.1,si w.m.2,a,b,si w.cur,y,si w.all] tt.mas))) p { w with known:=kn } ns L (p::(n1++(n2++n3'))):=by
 have hd:=k.mr.nodup
 have lt:=k.mr.lt
 have hdt:=(f0w.1 hd).2
 have hd1:=f0r.1 hdt
 have hd2:=f0r.1 hd1.2.1
 have q1:∀ n∈n1,h2.get n=hi.get n:=fun n hm=>kp n (lt n (by simp[hm])).2 (fun h3=>hd1.2.2 n hm n (by simp[h3]) rfl)
 have q2:∀ n∈n2,h2.get n=hi.get n:=fun n hm=>kp n (lt n (by simp[hm])).2 (fun h3=>hd2.2.2 n hm n h3 rfl)
 have nd':(n1++(n2++n3')).Nodup:=by
  have:=jhr (A:=n1++n2) (ns:=n3) (B:=[]) (ns':=n3') (by simpa using hdt) nd (fun n hm=>by
   rcases(hn n hm).1 with h3 | h3
   .exact .inl h3
   .exact .inr (fun h4=>by have:=(lt n (by simp at h4 ⊢;exact .inr h4)).2;omega))
  simpa using this
 have u:=MR.upd (t:=tt) (w':={ w with known:=kn }) hd lt k.pos ok2 nx (hv.keep q1) (hb.imp q2 (fun row a ms hm k=>k.keep (fun n hn=>q2 n (hm n hn)))) hk nd' (fun n hm=>by
  rcases f0e.1 hm with h3 | h3
  .exact ⟨.inl (by simp[h3]),by have:=(lt n (by simp[h3])).2;omega⟩
  .rcases f0e.1 h3 with h4 | h4
   .exact ⟨.inl (by simp[h4]),by have:=(lt n (by simp[h4])).2;omega⟩
   .exact ⟨(hn n h4).1.imp (fun h5=>by simp[h5]) id,(hn n h4).2⟩) (fun n h3 h4=>kp n h3 (fun h5=>h4 (by simp[h5])))
 exact k.step u.1 u.2
theorem j3h {rows:List (List SV)} {l ns:List Nat} (k:Rows 1 EI rows l ns):rows=l.map (fun(n:Nat)=>[si (n:Int)])/\ns=[]:=by
 induction k with
 | nil=>exact⟨rfl,rfl⟩
 | cons h1 h2 _ ih =>
  obtain⟨rfl,rfl⟩:=h2
  obtain⟨rfl,rfl⟩:=ih
  exact⟨rfl,rfl⟩
theorem qju:∀ (l:List Nat),Rows 1 EI (l.map (fun(n:Nat)=>[si (n:Int)])) l []
 | []=>.nil
 | a::l=>by
  have:=Rows.cons (sz:=1) (E:=EI) (row:=[si a]) (a:=a) (ns:=[]) rfl ⟨rfl,rfl⟩ (qju l)
  exact this
theorem qdz (l:List Nat):(l.map (fun(n:Nat)=>[si (n:Int)])).flatten=l.map (fun(n:Nat)=>si (n:Int)):=by
 induction l with
 | nil=>rfl
 | cons a l ih=>simp[ih]
theorem FS.take (k:FS h0 hi p w ns L ns') {j:Nat} (hj:1<=j) (hj2:j<=w.known.length) (hN:w.known.length<=100000):∃ a b c x y h2 ns2,hi.get p=some (.arr [si w.m.1,si w.m.2,a,b,si w.cur,c,si w.all] tt.mas)/\qss 1 (some (.s c)) (some (vi (j:Int)))=some (.s x)/\juf hi 3 1 8 (.s .nilSlice) (.s x)=some (.s y,h2)/\Ok h2/\h2.get p=hi.get p /\
 FS h0 (h2.put p (some (.arr [si w.m.1,si w.m.2,a,b,si w.cur,y,si w.all] tt.mas))) p { w with known:=w.known.take j } ns L ns2:=by
 obtain⟨⟨a,b,c,n1,n2,n3,h1,h2,h3,h4,e⟩,h5,h6⟩:=id k.mr
 subst e
 rcases h4 with⟨e,_,_⟩ | ⟨hne,bk,rows,nss,rfl,hg,hR,rfl⟩
 .rw [e] at hj2;simp at hj2;omega
 .obtain ⟨rfl,rfl⟩:=j3h hR
  have hl:(w.known.take j).length=j:=by rw[f10];omega
  have hrd:rdB (hi.get bk) 0 ((w.known.take j).length*1)=some ((w.known.take j).map (fun(n:Nat)=>[si (n:Int)])).flatten:=by
   rw[hg,jgm]
   refine(ja5 _).2 ⟨?_,?_⟩
   .rw [hl,qdz];simp[jb8];omega
   .rw [hl,qdz,qdz,jb8,f2h,f11,List.map_take]
  have hpos:=k.pos
  obtain⟨h7,e7,ok7,n7,kp7,sl7⟩:=(Sl.nil (h:=hi) (ty:=3) (sz:=1) (ex:=false) (E:=EI)).app (bytes:=8) (b':=bk) (o':=0) (mc':=w.known.length) (ex':=false) (l':=w.known.take j) (ms:=[]) k.ok (by simp) hrd (qju _) (by intro e;rw[e] at hl;simp at hl;omega) (by simp;omega) (by simp;omega)
  rw[hl] at e7 sl7
  have hp:=h6 p (by simp)
  have kp8:∀ n,n<hi.next->h7.get n=hi.get n:=fun n hn=>kp7 n (by omega) (by simp)
  refine⟨a,b,_,_,_,h7,_,h1,qjt hj2,e7,ok7,kp8 p hp.2,k.setknown h2 h3 ok7 (by omega) (fun n hn _=>kp8 n hn) (sl7 (E':=EI) (fun _ _ _ _ h=>h)) (by simp) (fun n hn=>?_)⟩
  simp at hn;subst hn
  exact⟨.inr (f0d _),by omega⟩
theorem FS.params (k:FS h0 hi p w ns L ns') {j:Nat} {blk:Blk} (hj:w.blocks[j]?=some blk) (hne:blk.params≠[]) (hN:w.known.length+blk.params.length<=100000):∃ a b c bb pp y h2 ns2,hi.get p=some (.arr [si w.m.1,si w.m.2,a,b,si w.cur,c,si w.all] tt.mas)/\jza 3 (.s b) (vi (j:Int))=some (.s (.ptr bb (j*3)))/\rdB (hi.get bb) (j*3) 1=some [pp] /\
 juf hi 3 1 8 (.s c) (.s pp)=some (.s y,h2)/\Ok h2/\h2.get p=hi.get p /\
 FS h0 (h2.put p (some (.arr [si w.m.1,si w.m.2,a,b,si w.cur,y,si w.all] tt.mas))) p { w with known:=w.known++blk.params } ns L ns2:=by
 obtain⟨⟨a,b,c,n1,n2,n3,h1,h2,h3,h4,e⟩,h5,h6⟩:=id k.mr
 subst e
 obtain⟨bb,row,ms,ix,hrd,hrl,⟨pp,ia,ee,na,nb,nc,rfl,sp,sI,sE,rfl⟩,hms,hbb⟩:=h3.at hj
 have rd1:=jg3 (j:=0) (c:=pp) hrd rfl
 rcases sp with⟨e,_,_⟩ | ⟨_,bp,rows,nss,rfl,hg,hR,rfl⟩
 .exact absurd e hne
 .obtain ⟨rfl,rfl⟩:=j3h hR
  have hl2:(blk.params.map (fun(n:Nat)=>[si (n:Int)])).flatten.length=blk.params.length:=by rw[qdz,f1d]
  have hrd2:rdB (hi.get bp) 0 (blk.params.length*1)=some (blk.params.map (fun(n:Nat)=>[si (n:Int)])).flatten:=by
   rw[hg,jgm]
   refine(ja5 _).2 ⟨?_,?_⟩
   .simp only[jb8,f11,hl2];omega
   .simp only[jb8,f11]
    rw[List.take_of_length_le (by rw[hl2];omega)]
  obtain⟨h7,e7,ok7,n7,kp7,sl7⟩:=h4.app (bytes:=8) (mc':=blk.params.length) (ex':=false) (l':=blk.params) (ms:=[]) k.ok (fun n hn=>h6 n (by simp[hn])) hrd2 (qju _) hne (by omega) (by omega)
  have hp:=h6 p (by simp)
  have hd:=h5
  have hdt:=(f0w.1 hd).2
  have hd1:=f0r.1 hdt
  have hd2:=f0r.1 hd1.2.1
  have kp8:∀ n,n<hi.next->n∉n3->h7.get n=hi.get n:=fun n hn h8=>kp7 n (by omega) (fun b hb e=>h8 (e▸List.mem_of_mem_head? hb))
  have hp3:p∉n3:=fun h8=>(f0w.1 hd).1 (by simp[h8])
  have hf:hi.next∉n3:=fun h8=>by have:=(h6 hi.next (by simp[h8])).2;omega
  refine⟨a,b,c,bb,_,_,h7,_,h1,ix,rd1,e7,ok7,kp8 p hp.2 hp3,k.setknown h2 h3 ok7 (by omega) kp8 (sl7 (E':=EI) (fun _ _ _ _ h=>h)) (jdk hd2.2.1 .nil (by simp) hf (by simp)) (fun n hn=>?_)⟩
  rcases f0j.1 hn with rfl | hn
  .exact ⟨.inr (f0d _),by omega⟩
  .have h8:=f0o (by simpa using hn)
   exact⟨.inl h8,by have:=(h6 n (by simp[h8])).2;omega⟩
end
def j9m:IC:=qr [qM 0,qM 16,qA (.load 7 true (.g 17)),qA (.call 26 [qc,qb,qa]),qT 4] (qr [qM 0,qA (.load 7 true (.g 17)),qA (.call 26 [qb,qC 0,qa]),qT 3] (qr [qM 0,qM 8,qM 5,qM 4,qM 3,qA (.bslice 3 1 [.int .i64 0,.int .i64 0] 2 [(0,(1,qb)),(1,(1,qa))]),qA (.call 25 [.l 5,.l 4,qd,qa])] (.region [qM 0,qM 0,qN,qG 5,qL,qM 2,qP (.slice 1 qb .none (.some qa)),qA (.app 3 1 8 (.c (.s .nilSlice)) qa),qP (.nchk (.l 7)),qG 5,qA (.store 1 qa qc)])))
def qfl:IC:=.seq (.block 1 (qr [qM 12,qP (.ixs 1 (.g 9) (.g 12)),qL,qQ 7 (.mv qc),qQ 8 (.mv qb)] (qr [qM 0,qM 8,qP (.nchk qb),qG 4,qA (.store 1 qa qc)] (qr [qF 2 17,qL,qP (.bin .add qa (qC 1)),qF 2 17,qA (.store 1 qa qb)] (.seq (qr [qM 7,qP (.bin .eq qa (qC 0)),qP (.mv qa),qR 0 false (.fld 6 (.g 17)),qS 1 false (.load 1 false qa),qS 2 false (.call 8 [qa,qC 2]),qR 3 false (.bin .eq qa (qC 1)),qQ 6 (.pick (.l 4) (.c (.s (.bool true))) qa)] (.cond (.g 6) (qr [qF 1 17,qL,qP (.bin .add qa (qC 1)),qF 1 17,qA (.store 1 qa qb)] (.region [qM 0,qA (.load 7 true (.g 17)),qA (.call 19 [qb,qa])])) .skip)) j9m))))) (.region [qI 12,qT 12])
def jym:IC:=qr [qQ 10 (.bin .lt (.g 12) (.g 11))] (.seq (qX 10 0) qfl)
def qp7:IC:=qr [qB 17 (.box 69 (.g 1))] (qr [qF 4 17,qL,qA (.call 8 [qa,qC 2]),qT 16] (qr [qM 0,qA (.load 7 true (.g 17)),qA (.call 19 [qb,qa])] (qr [qM 0,qN,qG 4,qL,qT 15] (qr [qM 0,qN,qG 5,qL,qP (.len qa),qT 2] (qr [qM 0,qA (.call 16 [qa,.c (.s .nilSlice)]),qT 14] (qr [qM 0,qA (.call 16 [qa,.c (.s .nilSlice)]),qT 13] (qr [qM 0,qM 16,qA (.bslice 3 1 [.int .i64 0,.int .i64 0] 2 [(0,(1,qa)),(1,(1,qC 0))]),qA (.call 16 [qc,qa]),qT 5] (qr [qM 0,qM 15,qM 14,qA (.call 25 [qc,qb,qa,.c (.s .nilSlice)])] (qr [qM 0,qM 15,qM 13,qA (.call 25 [qc,qb,qa,.c (.s .nilSlice)])] (.seq (qr [qM 14,qM 13,qB 9 (.bslice 3 1 [.int .i64 0,.int .i64 0] 2 [(0,(1,qb)),(1,(1,qa))]),qQ 11 (.len qa),qQ 12 (.mv (qC 0))] (.block 0 (.loop jym))) (qr [qM 0,qM 5,qP (.nchk qb),qG 4,qA (.store 1 qa qc)] (.draw [(qM 0,.none),(qM 0,.none),(qN,.none),(qG 5,.none),(qL,.some []),(qM 0,.none),(qN,.none),(qG 2,.none),(qG 1,.none),(qL,.some [4]),(qM 5,.none),(qP (.ixs 3 qb qa),.none),(qG 0,.none),(qL,.some [8]),(qA (.app 3 1 8 (.l 9) qa),.none),(qP (.nchk (.l 14)),.none),(qG 5,.none),(qA (.store 1 qa qc),.none)]))))))))))))
theorem qw5:T 17=some (.mk qp7 2 16 []):=by kernel_rfl
theorem FS.refl {h:Hp} {p:Nat} {w:Ms} {ns:List Nat} (ok:Ok h) (mr:MR tt h p w ns):FS h h p w ns [] ns:=⟨ok,mr,Mv.refl ok,by simp⟩
theorem no2 {f:FuncId} (h1:S1 f=false) (h2:Nat.beq f jg9.f=false) {vs:List AV} {h:Hp}:jdx F2 f vs h=none:=(j3f h2).trans ((jbk h1).trans qt9)
theorem jeo (w:Ms) (p:Pc):w.known.length<=(jcu w p).known.length/\(jcu w p).blocks.length=w.blocks.length:=by
 obtain⟨cs,h1,h2,h3⟩:=jle w p
 refine⟨?_,?_⟩
 .show _<=((ja0 w p).2.known++_).length
  rw[h3];simp
 .show (jau (ja0 w p).2.blocks _ _).length=_
  unfold jau;rw[f1g,h3]
theorem jdc (w:Ms) (c:Nat) (p:Pc):w.known.length<=(jac w c p).2.known.length/\(jac w c p).2.blocks.length=w.blocks.length:=by
 unfold jac
 split
 .exact ⟨f0d _,rfl⟩
 .exact jeo _ _
theorem jcd (w:Ms) (k to:Nat) (l:List Nat):(jav w k to l).known=w.known/\(jav w k to l).blocks.length=w.blocks.length:=by
 unfold jav
 exact⟨rfl,by simp⟩
theorem Wok.setcur {w:Ms} {N j:Nat} (wk:Wok w N) (h:j<w.blocks.length):Wok { w with cur:=j } N:=⟨wk.m1,wk.m2,wk.vals,wk.known,h,wk.nv,wk.nb,wk.nk,wk.ni,wk.na⟩
theorem Wok.take {w:Ms} {N j:Nat} (wk:Wok w N):Wok { w with known:=w.known.take j } N:=⟨wk.m1,wk.m2,wk.vals,fun v hv=>wk.known v (List.mem_of_mem_take hv),wk.cur,wk.nv,wk.nb,by have:=wk.nk;simp;omega,wk.ni,wk.na⟩
theorem jvu {a:Int} (h1:-9223372036854775808<=a) (h2:a<=9223372036854775807):w64 (a+1)=inc a:=by
 unfold inc
 split
 .rename_i h;subst h;rfl
 .exact jad (by omega) (by omega)
theorem qfm {a:Int} (h1:-9223372036854775808<=a) (h2:a<=9223372036854775807):-9223372036854775808<=inc a/\inc a<=9223372036854775807:=by
 unfold inc
 split<;>omega
theorem Wok.new {w:Ms} {N:Nat} (wk:Wok w N) (cls:Nat) (p:Pc):Wok (jac w cls p).2 (N+10):=Wok.newest jio wk cls p
def j1k (w:Ms) (cls before e k:Nat) (q:Pc):Ms :=
 let v:=jac w cls q
 let z:=jac v.2 0 q
 let w:=jav z.2 k e [v.1,z.1]
 { w with known:=w.known.take before }
theorem Wok.tail {w:Ms} {N:Nat} (wk:Wok w N) (cls before e k:Nat) (q:Pc):Wok (j1k w cls before e k q) (N+21) :=
 ((((wk.new cls q).new 0 q).edge k e _).take)
theorem j1l {h0 hi:Hp} {p bx:Nat} {w:Ms} {ns ns':List Nat} {L:List (Nat×AB)} {q:Pc} (K:FS h0 hi p w ns ((bx,.arr (jce q) 69)::L) ns') (hL:∀ r∈L,r.1≠bx) (hpos:1<=h0.next) {N:Nat} (wk:Wok w N) (hN:N<=70000) (pin:Pin q) {cls before e k:Nat} (hc:cls<2) (hk:k<w.blocks.length) (hb1:1<=before) (hb2:before<=w.known.length)
 {x1 x3 x4 x6 x7 x9 x10 x11 x12 x13 x14 x15:AV} {Q:Ex->St->Prop} (hQ:∀ hj ns'' x3 x4,FS h0 hj p (j1k w cls before e k q) ns ((bx,.arr (jce q) 69)::L) ns''->Q .normal (.mk [.s (.ptr p 0),x1,vi before,x3,x4,vi e,x6,x7,vi k,x9,x10,x11,x12,x13,x14,x15,vi cls,.s (.ptr bx 0)] hj)) :
 W F2 j9m (.mk [.s (.ptr p 0),x1,vi before,x3,x4,vi e,x6,x7,vi k,x9,x10,x11,x12,x13,x14,x15,vi cls,.s (.ptr bx 0)] hi) Q:=by
 unfold j9m
 have g1:=jdc w cls q
 have ok1:=K.ok
 have hx1:hi.get bx=some (.arr (jce q) 69):=(K.kp _ (f07 ..)).1
 unfold jce at hx1
 simp(disch:=first|omega|rfl) only[go_sem,hx1]
 refine WC.imp (jha K wk (by omega) hc (pc:=q) pin) ?_
 rintro _ h2 ⟨rfl,ns2,K2⟩
 have wk2:=wk.new cls q
 have g2:=jdc (jac w cls q).2 0 q
 have ok2:=K2.ok
 have hx2:h2.get bx=some (.arr (jce q) 69):=(K2.kp _ (f07 ..)).1
 unfold jce at hx2
 simp(disch:=first|omega|rfl) only[go_sem,hx2]
 refine WC.imp (jha K2 wk2 (by omega) (cls:=0) (by omega) (pc:=q) pin) ?_
 rintro _ h3 ⟨rfl,ns3,K3⟩
 have wk3:=wk2.new 0 q
 have ok3:=K3.ok
 simp(disch:=first|omega|rfl) only[go_sem]
 have K4:=K3.push (a:=.arr [si ((jac w cls q).1:Nat),si ((jac (jac w cls q).2 0 q).1:Nat)] 3)
 refine WC.imp (jvt K4 (fun r hr=>by have:=(K3.kp r hr).2.2.1;omega) hpos wk3 (by omega) (a:=k) (to:=e) (by omega)) ?_
 rintro _ h5 ⟨rfl,ns5,K5⟩
 have wk5:=wk3.edge k e [(jac w cls q).1,(jac (jac w cls q).2 0 q).1]
 have ok5:=K5.ok
 have g5:=jcd (jac (jac w cls q).2 0 q).2 k e [(jac w cls q).1,(jac (jac w cls q).2 0 q).1]
 obtain⟨a,b,c,x,y,h6,ns6,hg,e1,e2,ok6,hp6,K6⟩:=K5.take hb1 (by rw[g5.1];omega) (by have:=wk5.nk;omega)
 have hg6:=hp6.trans hg
 simp(disch:=first|omega|rfl) only[go_sem,hg,e1,e2,hg6,jip]
 exact hQ _ _ _ _ K6
theorem Pin.incA {q:Pc} (pin:Pin q):Pin { q with a:=inc q.a }:=⟨pin.kind,pin.op,qfm pin.a.1 pin.a.2,pin.b,pin.c,pin.limits,pin.flags⟩
theorem Pin.incO {q:Pc} (pin:Pin q):Pin { q with op:=inc q.op }:=⟨pin.kind,qfm pin.op.1 pin.op.2,pin.a,pin.b,pin.c,pin.limits,pin.flags⟩
theorem j9n {h0 hi:Hp} {p bx b9 k0 k1:Nat} {w:Ms} {ns ns':List Nat} {q:Pc} (K:FS h0 hi p w ns [(bx,.arr (jce q) 69),(b9,.arr [si (k0:Nat),si (k1:Nat)] 3)] ns') (hb:b9≠bx) (hpos:1<=h0.next) {N:Nat} (wk:Wok w N) (hN:N<=60000) (pin:Pin q) {cls before e k i:Nat} (hi2:i<2) (hget:[k0,k1][i]?=some k) (hc:cls<2) (hk:k<w.blocks.length) (hb1:1<=before) (hb2:before<=w.known.length)
 {x1 x3 x4 x6 x7 x8 x10 x13 x14 x15:AV} {Q:Ex->St->Prop} (hQ:∀ hj ns'' x3 x4 x6 x7 x8 x10,FS h0 hj p (ji0 q cls before e k (decide (i=0∨pk q.flags 2=1)) w).2 ns [(bx,.arr (jce (ji0 q cls before e k (decide (i=0∨pk q.flags 2=1)) w).1) 69),(b9,.arr [si (k0:Nat),si (k1:Nat)] 3)] ns''->W F2 jym.loop (.mk [.s (.ptr p 0),x1,vi before,x3,x4,vi e,x6,x7,x8,.s (.slice b9 0 2 2 true 1),x10,vi 2,vi (i+1:Nat),x13,x14,x15,vi cls,.s (.ptr bx 0)] hj) Q) :
 W F2 jym.loop (.mk [.s (.ptr p 0),x1,vi before,x3,x4,vi e,x6,x7,x8,.s (.slice b9 0 2 2 true 1),x10,vi 2,vi i,x13,x14,x15,vi cls,.s (.ptr bx 0)] hi) Q:=by
 rw[jaj]
 unfold jym
 have hlt:(i:Int)<2:=by omega
 have kx:=K.kp _ (f07 ..)
 have k9:=K.kp (b9,.arr [si (k0:Nat),si (k1:Nat)] 3) (by simp)
 obtain⟨ob1,orow,oms,oe1,oe2,oe3,⟨rfl,rfl⟩,oe5,oe6⟩:=(j9l k9.1).at hget
 obtain rfl:=f0q.1 oe6
 obtain⟨a,b,c,hg,kl,bl⟩:=K.cells
 have ok:=K.ok
 have hp:=K.mr.lt p (by obtain⟨⟨_,_,_,_,_,_,_,_,_,_,e⟩,_,_⟩:=K.mr;simp[e])
 have hpm:p∈ns':=by obtain⟨⟨_,_,_,_,_,_,_,_,_,_,e⟩,_,_⟩:=K.mr;simp[e]
 have hbp:bx≠p:=fun e=>kx.2.2.2 (e▸hpm)
 have K1:=K.setcur (j:=k) hg
 have wk1:=wk.setcur hk
 obtain⟨hA,eA⟩:∃ hA,hA=hi.put p (some (.arr [si w.m.1,si w.m.2,a,b,si k,c,si w.all] tt.mas)):=⟨_,rfl⟩
 rw[←eA] at K1
 have K2:=K1.put (a':=.arr (jce { q with a:=inc q.a }) 69) (fun r hr=>by obtain rfl:=f0q.1 hr;exact hb) hpos
 obtain⟨hB,eB⟩:∃ hB,hB=hA.put bx (some (.arr (jce { q with a:=inc q.a }) 69)):=⟨_,rfl⟩
 rw[←eB] at K2
 have K3:=K2.put (a':=.arr (jce { q with a:=inc q.a,op:=inc q.op }) 69) (fun r hr=>by obtain rfl:=f0q.1 hr;exact hb) hpos
 obtain⟨hC,eC⟩:∃ hC,hC=hB.put bx (some (.arr (jce { q with a:=inc q.a,op:=inc q.op }) 69)):=⟨_,rfl⟩
 rw[←eC] at K3
 have okA:=K1.ok
 have okB:=K2.ok
 have okC:=K3.ok
 have xA:=(K1.kp _ (f07 ..)).1
 have xB:=(K2.kp _ (f07 ..)).1
 have xC:=(K3.kp _ (f07 ..)).1
 have hx:=kx.1
 unfold jce at xA xB xC hx
 have eA':hi.put p (some (.arr [si w.m.1,si w.m.2,a,b,si k,c,si w.all] tt.mas))=hA:=eA.symm
 have eB':hA.put bx (some (.arr [si q.kind,si q.op,si (inc q.a),si q.b,si q.c,si q.limits,si q.flags] 69))=hB:=eB.symm
 have eC':hB.put bx (some (.arr [si q.kind,si (inc q.op),si (inc q.a),si q.b,si q.c,si q.limits,si q.flags] 69))=hC:=eC.symm
 have ha:=jvu pin.a.1 pin.a.2
 have ho:=jvu pin.op.1 pin.op.2
 obtain⟨⟨q1,q2⟩,⟨q3,q4⟩,⟨q5,q6⟩,⟨q7,q8⟩,⟨q9,q10⟩,⟨q11,q12⟩,⟨q13,q14⟩⟩:=id pin
 have hsucc:((i:Int)+1)=((i+1:Nat):Int):=by omega
 simp(disch:=first|omega|rfl) only[go_sem,eq_true hlt]
 unfold qfl
 by_cases hi0:i=0
 .have hi0':(i:Int)=0:=by omega
  have hdec:decide (i=0∨pk q.flags 2=1)=true:=by simp[hi0]
  rw[hdec] at hQ
  simp(disch:=first|omega|rfl) only[go_sem,oe1,oe2,hg,eA',xA,ha,eB',xB,ho,eC',xC,eq_true hi0']
  refine WC.imp (jje K3 wk1 (by omega) (pc:={ q with a:=inc q.a,op:=inc q.op }) pin.incA.incO) ?_
  rintro _ h2 ⟨rfl,ns2,K4⟩
  have g4:=jeo { w with cur:=k } { q with a:=inc q.a,op:=inc q.op }
  have wk4:=wk1.lay { q with a:=inc q.a,op:=inc q.op }
  simp(disch:=first|omega|rfl) only[go_sem]
  refine j1l K4 (fun r hr=>by obtain rfl:=f0q.1 hr;exact hb) hpos wk4 (by omega) pin.incA.incO hc (by rw[g4.2];exact hk) hb1 (f01 hb2 g4.1) (fun hj ns'' y3 y4 K5=>?_)
  simp(disch:=first|omega|rfl) only[go_sem,jad,hsucc]
  exact hQ hj ns'' _ _ _ _ _ _ K5
 .have hi0':¬ (i:Int)=0:=by omega
  by_cases hf:pk q.flags 2=1
  .have hf':((pk q.flags 2:Nat):Int)=1:=by omega
   have hdec:decide (i=0∨pk q.flags 2=1)=true:=by simp[hf]
   rw[hdec] at hQ
   simp(disch:=first|omega|rfl) only[go_sem,jf1,jf2,jf3,jf4,jf5,jb5,jam,jai,jba jio,oe1,oe2,hg,eA',xA,ha,eB',xB,ho,eC',xC,eq_false hi0',eq_true hf']
   refine WC.imp (jje K3 wk1 (by omega) (pc:={ q with a:=inc q.a,op:=inc q.op }) pin.incA.incO) ?_
   rintro _ h2 ⟨rfl,ns2,K4⟩
   have g4:=jeo { w with cur:=k } { q with a:=inc q.a,op:=inc q.op }
   have wk4:=wk1.lay { q with a:=inc q.a,op:=inc q.op }
   simp(disch:=first|omega|rfl) only[go_sem]
   refine j1l K4 (fun r hr=>by obtain rfl:=f0q.1 hr;exact hb) hpos wk4 (by omega) pin.incA.incO hc (by rw[g4.2];exact hk) hb1 (f01 hb2 g4.1) (fun hj ns'' y3 y4 K5=>?_)
   simp(disch:=first|omega|rfl) only[go_sem,jad,hsucc]
   exact hQ hj ns'' _ _ _ _ _ _ K5
  .have hf':¬ ((pk q.flags 2:Nat):Int)=1:=by omega
   have hdec:decide (i=0∨pk q.flags 2=1)=false:=by simp[hf,hi0]
   rw[hdec] at hQ
   simp(disch:=first|omega|rfl) only[go_sem,jf1,jf2,jf3,jf4,jf5,jb5,jam,jai,jba jio,oe1,oe2,hg,eA',xA,ha,eB',xB,eq_false hi0',eq_false hf']
   refine j1l K2 (fun r hr=>by obtain rfl:=f0q.1 hr;exact hb) hpos wk1 (by omega) pin.incA hc hk hb1 hb2 (fun hj ns'' y3 y4 K5=>?_)
   simp(disch:=first|omega|rfl) only[go_sem,jad,hsucc]
   exact hQ hj ns'' _ _ _ _ _ _ K5
theorem qud (q:Pc) (cls before e k:Nat) (lay:Bool) (w:Ms):(ji0 q cls before e k lay w).1=if lay then { q with a:=inc q.a,op:=inc q.op } else { q with a:=inc q.a }:=by cases lay<;>rfl
theorem qd0 (q:Pc) (cls before e k:Nat) (lay:Bool) (w:Ms):(ji0 q cls before e k lay w).2=j1k (if lay then jcu { w with cur:=k } { q with a:=inc q.a,op:=inc q.op } else { w with cur:=k }) cls before e k (if lay then { q with a:=inc q.a,op:=inc q.op } else { q with a:=inc q.a }):=by cases lay<;>rfl
theorem qjv {q:Pc} (pin:Pin q) (cls before e k:Nat) (lay:Bool) (w:Ms):Pin (ji0 q cls before e k lay w).1:=by
 rw[qud];split
 .exact pin.incA.incO
 .exact pin.incA
theorem j3i {w:Ms} {cls before e k:Nat} {q:Pc} (h:before<=w.known.length):(j1k w cls before e k q).known.length=before/\(j1k w cls before e k q).blocks.length=w.blocks.length:=by
 have g1:=jdc w cls q
 have g2:=jdc (jac w cls q).2 0 q
 have g5:=jcd (jac (jac w cls q).2 0 q).2 k e [(jac w cls q).1,(jac (jac w cls q).2 0 q).1]
 refine⟨?_,?_⟩
 .show ((jav _ _ _ _).known.take before).length=_
  rw[g5.1,f10];omega
 .show (jav _ _ _ _).blocks.length=_
  rw[g5.2,g2.2,g1.2]
theorem jvv {q:Pc} {cls before e k:Nat} {lay:Bool} {w:Ms} (h:before<=w.known.length):(ji0 q cls before e k lay w).2.known.length=before/\(ji0 q cls before e k lay w).2.blocks.length=w.blocks.length:=by
 rw[qd0]
 cases lay with
 | true =>
  have g:=jeo { w with cur:=k } { q with a:=inc q.a,op:=inc q.op }
  have:=j3i (w:=jcu { w with cur:=k } { q with a:=inc q.a,op:=inc q.op }) (cls:=cls) (before:=before) (e:=e) (k:=k) (q:={ q with a:=inc q.a,op:=inc q.op }) (f01 h g.1)
  simp only[if_true]
  exact⟨this.1,this.2.trans g.2⟩
 | false=>exact j3i (w:={ w with cur:=k }) h
theorem Wok.way {w:Ms} {N:Nat} (wk:Wok w N) (q:Pc) (cls before e k:Nat) (lay:Bool) (hk:k<w.blocks.length):Wok (ji0 q cls before e k lay w).2 (N+31):=by
 rw[qd0]
 cases lay with
 | true=>exact((wk.setcur hk).lay { q with a:=inc q.a,op:=inc q.op }).tail cls before e k _
 | false =>
  have:=(wk.setcur hk).tail cls before e k { q with a:=inc q.a }
  exact⟨this.m1,this.m2,this.vals,this.known,this.cur,f01 this.nv (by omega),f01 this.nb (by omega),f01 this.nk (by omega),fun b hb=>by have:=this.ni b hb;omega,f01 this.na (by omega)⟩
def pr (w:Ms) (j:Nat):Option (List Nat):=(w.blocks[j]?).map (·.params)
theorem qfn {l:List Blk} {k j:Nat} {f:Blk->Blk} (hf:∀ b,(f b).params=b.params):((l.modify k f)[j]?).map (·.params)=(l[j]?).map (·.params):=by
 rw[f06]
 split
 .cases l[j]? with
  | none=>rfl
  | some b=>exact congrArg some (hf b)
 .simp
theorem qfo (w:Ms) (p:Pc) (j:Nat):pr (jcu w p) j=pr w j:=by
 obtain⟨cs,h1,h2,h3⟩:=jle w p
 show((jau (ja0 w p).2.blocks _ _)[j]?).map (·.params)=_
 unfold jau
 rw[qfn (f:=fun b:Blk=>{ b with instrs:=b.instrs++[(ja0 w p).1] }) (fun _=>rfl),h3]
 rfl
theorem jyn (w:Ms) (c:Nat) (p:Pc) (j:Nat):pr (jac w c p).2 j=pr w j:=by
 unfold jac
 split
 .rfl
 .exact qfo _ _ _
theorem jj0 (w:Ms) (k to:Nat) (l:List Nat) (j:Nat):pr (jav w k to l) j=pr w j:=qfn (fun _=>rfl)
theorem qjw (w:Ms) (cls before e k:Nat) (q:Pc) (j:Nat):pr (j1k w cls before e k q) j=pr w j:=(jj0 _ _ _ _ j).trans ((jyn _ _ _ j).trans (jyn _ _ _ j))
theorem j3j (q:Pc) (cls before e k:Nat) (lay:Bool) (w:Ms) (j:Nat):pr (ji0 q cls before e k lay w).2 j=pr w j:=by
 rw[qd0,qjw]
 cases lay with
 | true=>exact qfo _ _ _
 | false=>rfl
theorem qjx {h:Hp} {p:Nat} {w:Ms} {ns:List Nat} (ok:Ok h) (mr:MR tt h p w ns) {N:Nat} (wk:Wok w N) (hN:N<=50000) (pc:Pc) (pin:Pin pc) :
 WC F2 17 [.s (.ptr p 0),.agg (jce pc)] h (fun v h'=>v=.tup []/\∃ ns',MR tt h' p (jf0 w pc) ns'/\Mv h h' ns ns'):=by
 refine ja9 (no2 rfl rfl) qw5 rfl ?_
 unfold qp7
 have hpos:=ok.pos
 have K0:=(FS.refl ok mr).push (a:=.arr (jce pc) 69)
 have hx0:=(K0.kp _ (f07 ..)).1
 obtain⟨bx,ebx⟩:∃ bx,h.next=bx:=⟨_,rfl⟩
 simp only[ebx] at K0 hx0
 have hl:=jgo (n:=pc.c) (m:=2) (by omega)
 have ok0:=K0.ok
 obtain⟨⟨q1,q2⟩,⟨q3,q4⟩,⟨q5,q6⟩,⟨q7,q8⟩,⟨q9,q10⟩,⟨q11,q12⟩,⟨q13,q14⟩⟩:=id pin
 obtain⟨hA,eA⟩:∃ hA,h.push (AB.arr (jce pc) 69)=hA:=⟨_,rfl⟩
 rw[eA] at K0 hx0 ok0
 unfold jce at eA hx0
 simp(disch:=first|omega|rfl) only[go_sem,jf1,jf2,jf3,jf4,jf5,jb5,jam,jai,jba jio,jce,eA,hx0,ebx]
 refine WC.imp (jje K0 wk (by omega) (pc:=pc) pin) ?_
 rintro _ h1 ⟨rfl,ns1,K1⟩
 have wk1:=wk.lay pc
 have gl:=jeo w pc
 have hne:=jq9 (w:=w) (p:=pc)
 obtain⟨w1,e1⟩:∃ w1,w1=jcu w pc:=⟨_,rfl⟩
 rw[←e1] at K1 wk1 gl hne
 have hlen1:1<=w1.known.length:=f1w.2 hne
 obtain⟨a,b,c,hg,kl,bl⟩:=K1.cells
 have ok1:=K1.ok
 simp(disch:=first|omega|rfl) only[go_sem,hg,kl]
 refine WC.imp (jlf K1 wk1 (by omega)) ?_
 rintro _ h2 ⟨rfl,ns2,K2⟩
 have wk2:=wk1.block [] (by simp) (by simp)
 have ok2:=K2.ok
 simp(disch:=first|omega|rfl) only[go_sem]
 refine WC.imp (jlf K2 wk2 (by omega)) ?_
 rintro _ h3 ⟨rfl,ns3,K3⟩
 have wk3:=wk2.block [] (by simp) (by simp)
 have ok3:=K3.ok
 simp(disch:=first|omega|rfl) only[go_sem]
 have K3':=K3.push (a:=.arr [si (pk pc.c 2:Nat),si (0:Nat)] 3)
 refine WC.imp (jyl K3' wk3 (by omega) (by omega)) ?_
 rintro _ h4 ⟨rfl,ns4,K4⟩
 have wk4:=wk3.block [pk pc.c 2,0] (by simp) (by simp;omega)
 have ok4:=K4.ok
 simp(disch:=first|omega|rfl) only[go_sem]
 have b1:(jaf w1 []).blocks.length=w1.blocks.length+1:=by simp[jaf]
 have b2:(jaf (jaf w1 []) []).blocks.length=w1.blocks.length+2:=by simp[jaf]
 have b3:(jaf (jaf (jaf w1 []) []) [pk pc.c 2,0]).blocks.length=w1.blocks.length+3:=by simp[jaf]
 have p3:pr (jaf (jaf (jaf w1 []) []) [pk pc.c 2,0]) (w1.blocks.length+2)=some (List.range' (w1.values.length) 2):=by
  unfold pr jaf
  simp
 have hcur:=wk1.cur
 rw[b1,b2]
 have v3:(jaf (jaf (jaf w1 []) []) [pk pc.c 2,0]).known=w1.known:=rfl
 generalize e4:jaf (jaf (jaf w1 []) []) [pk pc.c 2,0]=w4 at *
 refine WC.imp (joc K4 wk4 (by omega) (a:=w1.cur) (to:=w1.blocks.length) (by omega)) ?_
 rintro _ h5 ⟨rfl,ns5,K5⟩
 have wk5:=wk4.edge w1.cur w1.blocks.length []
 have g5:=jcd w4 w1.cur w1.blocks.length []
 have ok5:=K5.ok
 simp(disch:=first|omega|rfl) only[go_sem]
 refine WC.imp (joc K5 wk5 (by omega) (a:=w1.cur) (to:=w1.blocks.length+1) (by omega)) ?_
 rintro _ h6 ⟨rfl,ns6,K6⟩
 have wk6:=wk5.edge w1.cur (w1.blocks.length+1) []
 have g6:=jcd (jav w4 w1.cur w1.blocks.length []) w1.cur (w1.blocks.length+1) []
 have p6:pr (jav (jav w4 w1.cur w1.blocks.length []) w1.cur (w1.blocks.length+1) []) (w1.blocks.length+2)=some (List.range' (w1.values.length) 2):=by rw[jj0,jj0,p3]
 have ok6:=K6.ok
 obtain⟨w6,e6⟩:∃ w6,w6=jav (jav w4 w1.cur w1.blocks.length []) w1.cur (w1.blocks.length+1) []:=⟨_,rfl⟩
 rw[←e6] at K6 wk6 g6 p6
 simp(disch:=first|omega|rfl) only[go_sem]
 have K7:=(K6.push (a:=.arr [si (w1.blocks.length:Nat),si (w1.blocks.length+1:Nat)] 3)).sub (L':=[(bx,.arr (jce pc) 69),(h6.next,.arr [si (w1.blocks.length:Nat),si (w1.blocks.length+1:Nat)] 3)]) (by simp)
 have hb:h6.next≠bx:=by have:=(K6.kp _ (f07 ..)).2.2.1;simp only at this;omega
 have hkn:w6.known.length=w1.known.length:=by rw[g6.1,g5.1,v3]
 refine j9n K7 hb hpos wk6 (by omega) pin (i:=0) (k:=w1.blocks.length) (by omega) rfl hl (by omega) hlen1 (by omega) (fun hj ns7 x3 x4 x6 x7 x8 x10 K8=>?_)
 have d0:decide (0=0∨pk pc.flags 2=1)=true:=by simp
 rw[d0] at K8
 have l8:=jvv (q:=pc) (cls:=pk pc.c 2) (before:=w1.known.length) (e:=w1.blocks.length+2) (k:=w1.blocks.length) (lay:=true) (w:=w6) (by omega)
 have wk8:=wk6.way pc (pk pc.c 2) w1.known.length (w1.blocks.length+2) w1.blocks.length true (by omega)
 have pn8:=qjv pin (pk pc.c 2) w1.known.length (w1.blocks.length+2) w1.blocks.length true w6
 have p8:=(j3j pc (pk pc.c 2) w1.known.length (w1.blocks.length+2) w1.blocks.length true w6 (w1.blocks.length+2)).trans p6
 have f8:(ji0 pc (pk pc.c 2) w1.known.length (w1.blocks.length+2) w1.blocks.length true w6).1.flags=pc.flags:=rfl
 obtain⟨x,ex⟩:∃ x,x=ji0 pc (pk pc.c 2) w1.known.length (w1.blocks.length+2) w1.blocks.length true w6:=⟨_,rfl⟩
 rw[←ex] at K8 l8 wk8 pn8 p8 f8
 refine j9n K8 hb hpos wk8 (by omega) pn8 (i:=1) (k:=w1.blocks.length+1) (by omega) rfl hl (by omega) hlen1 (by omega) (fun hj9 ns9 y3 y4 y6 y7 y8 y10 K9=>?_)
 have d1:decide (1=0∨pk x.1.flags 2=1)=decide (pk pc.flags 2=1):=by rw[f8];simp
 rw[d1] at K9
 have l9:=jvv (q:=x.1) (cls:=pk pc.c 2) (before:=w1.known.length) (e:=w1.blocks.length+2) (k:=w1.blocks.length+1) (lay:=decide (pk pc.flags 2=1)) (w:=x.2) (by omega)
 have wk9:=wk8.way x.1 (pk pc.c 2) w1.known.length (w1.blocks.length+2) (w1.blocks.length+1) (decide (pk pc.flags 2=1)) (by omega)
 have p9:=(j3j x.1 (pk pc.c 2) w1.known.length (w1.blocks.length+2) (w1.blocks.length+1) (decide (pk pc.flags 2=1)) x.2 (w1.blocks.length+2)).trans p8
 obtain⟨y,ey⟩:∃ y,y=ji0 x.1 (pk pc.c 2) w1.known.length (w1.blocks.length+2) (w1.blocks.length+1) (decide (pk pc.flags 2=1)) x.2:=⟨_,rfl⟩
 rw[←ey] at K9 l9 wk9 p9
 rw[jaj]
 unfold jym
 have ok9:=K9.ok
 obtain⟨a9,b9,c9,hg9,kl9,bl9⟩:=K9.cells
 have K10:=K9.setcur (j:=w1.blocks.length+2) hg9
 obtain⟨h10,e10⟩:∃ h10,hj9.put p (some (.arr [si y.2.m.1,si y.2.m.2,a9,b9,si (w1.blocks.length+2:Nat),c9,si y.2.all] tt.mas))=h10:=⟨_,rfl⟩
 rw[e10] at K10
 obtain⟨blk,hblk,hpar⟩:=f0a.1 p9
 have hblk':({ y.2 with cur:=w1.blocks.length+2 }:Ms).blocks[w1.blocks.length+2]?=some blk:=hblk
 have hnk9:=wk9.nk
 obtain⟨a,b,c,bb,pp,z,h11,ns11,hg10,ix,rd1,e11,ok11,hp11,K11⟩:=K10.params hblk' (by rw[hpar];simp) (by rw[hpar];simp;omega)
 have hg11:=hp11.trans hg10
 have ok10:=K10.ok
 simp(disch:=first|omega|rfl) only[go_sem,hg9,e10,hg10,ix,rd1,e11,hg11]
 have hfin:jf0 w pc={ y.2 with cur:=w1.blocks.length+2,known:=y.2.known++blk.params }:=by
  have h1:jf0 w pc={ y.2 with cur:=w1.blocks.length+2,known:=y.2.known++(y.2.blocks.getD (w1.blocks.length+2) ⟨[],[],[]⟩).params }:=by
   subst ey ex e6 e4 e1
   rfl
  rw[h1,f0f,hblk,f1t]
 rw[hfin]
 exact⟨_,K11.mr,K11.mv⟩
end
end Go.Proofs.YtdbklpgagdbpiaaDoor.Ev
