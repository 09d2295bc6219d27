/- The builders of functions. -/
import Derived.Test.YtkpadfebkaangaaGreatDoorMa10
import Derived.Test.YtkpadfebkaangaaGreatDoorWb
import Derived.Test.YtkpadfebkaangaaGreatDoorCdM
namespace Go.Proofs.YtkpadfebkaangaaGreatDoor.Ev
noncomputable section
open Go Go.RowKit Go.Proofs.YtkpadfebkaangaaGreatDoor.Ms
set_option linter.all false
set_option maxRecDepth 100000
set_option maxHeartbeats 2000000
theorem Wok.edge {w:Ms} {N:Nat} (wk:Wok w N) (k to:Nat) (args:List Nat):Wok (jay w k to args) (N+1):=by
 unfold jay
 refine⟨wk.m1,wk.m2,wk.vals,wk.known,by show w.cur<(w.blocks.modify k _).length;rw[f1d];exact wk.cur,f17 wk.nv,by show(w.blocks.modify k _).length<=_;rw[f1d];exact f17 wk.nb,f17 wk.nk,fun b hb=>?_,f17 wk.na⟩
 have hb':b∈w.blocks.modify k (fun b=>{ b with edges:=b.edges++[⟨to,args⟩] }):=hb
 rcases f0n k w.blocks.length with h1 | h1
 .rw [jd3 (f0b h1)] at hb'
  rcases List.mem_or_eq_of_mem_set hb' with h | rfl
  .have:=wk.ni b h;omega
  .have:=wk.ni _ (f23 h1)
   simp only[f0d,f2c];omega
 .rw [List.modify_eq_self h1] at hb'
  have:=wk.ni b hb';omega
section
variable {F:Fns} (B:Base F)
include B
theorem j9a {h2:Hp} {p:Nat} {w2:Ms} {ns:List Nat} (ok2:Ok h2) (mr2:MR tt h2 p w2 ns) {N:Nat} (wk2:Wok w2 N) (hN:N<=80000) {kk to:Nat} {args:List Nat} {sa:SV} {n1:List Nat} (hkk:kk<w2.blocks.length) (hsa:Sl h2 3 1 true EI sa args n1) (nd1:n1.Nodup) (lo1:∀ n∈n1,1<=n/\n<h2.next/\n∉ns) :
 WC F 49 [.s (.ptr p 0),vi kk,vi to,.s sa] h2 (fun v h'=>v=.tup []/\∃ ns',MR tt h' p (jay w2 kk to args) ns'/\Mv h2 h' (ns++n1) ns'):=by
 refine jaz (B.no 49 se _ _) ((B.T _).trans qmn) rfl ?_
 unfold j0x
 obtain⟨⟨av,bv,kv,m1,m2,m3,hg,hv,hb,hk,rfl⟩,hd,hlt⟩:=mr2
 have hp:=hlt p se
 obtain⟨blk,hblk⟩:∃ b,w2.blocks[kk]?=some b:=⟨_,f0b hkk⟩
 have hni:=wk2.ni blk (f0c hblk)
 obtain⟨bb,row,ms,M1,M2,cells,ix,hbg,hrd,hrl,⟨pp,ia,ee,na,nb,nc,rfl,sp,sI,sE,rfl⟩,rfl,hset⟩:=hb.upd hblk
 have rd1:=jd1 (j:=2) (c:=ee) hrd rfl
 have hbb:=hlt bb se
 obtain⟨cells',hst,hset'⟩:=hset (j:=2) (v:=SV.slice (h2.next+1) 0 (blk.edges.length+1) (blk.edges.length+1) false 2) oa
 have lt':=fun n hn=>(hlt n hn).2
 have sub_nc:∀ n∈nc,n∈p::(m1++(bb::(M1++(na++(nb++nc)++M2))++m3)):=fun n hn=>by simp[hn]
 have hdt:=(f0r.1 hd).2
 have e0:m1++(bb::(M1++(na++(nb++nc)++M2))++m3)=(m1++(bb::(M1++(na++nb))))++(nc++(M2++m3)):=by simp[f0g]
 have hpb:p≠bb:=fun e=>(f0r.1 hd).1 (by simp[e])
 have hpn:p∉nc:=fun e=>(f0r.1 hd).1 (by simp[e])
 rw[e0] at hdt
 have hd3:=f0m.1 hdt
 have hdnc:=(f0m.1 hd3.2.1).1
 have hbn:bb∉nc:=fun e=>hd3.2.2 bb se bb (by simp[e]) rfl
 have hsa':Sl h2 tt.int 1 true EI sa args n1:=hsa
 have hEE:EE tt h2 [si to,sa] (Ms.Edg.mk to args) n1:=⟨sa,rfl,hsa'⟩
 obtain⟨h4,e4,ok4,n4,kp4,kt4,sl4⟩:=sE.app1 (E:=EE tt h2) (bytes:=32) (row:=[si to,sa]) (a:=Ms.Edg.mk to args) (ms:=n1) ok2 (fun n hn=>hlt n (sub_nc n hn)) rfl hEE oa oa
 have e4':jmr (h2.push (AB.arr [si to,sa] 65)) 65 2 32 (AV.s ee) (AV.s (SV.slice h2.next 0 1 1 true 2))=some (AV.s (SV.slice (h2.next+1) 0 (blk.edges.length+1) (blk.edges.length+1) false 2),h4):=e4
 have p4:h4.get p=_:=(kp4 p hp.2 hpn).trans hg
 have b4:h4.get bb=_:=(kp4 bb hbb.2 hbn).trans hbg
 simp(disch:=go_num) only[go_sem,jj9,jet,jeu,jm6,jm7,and_false,false_and,if_false,hg,ix,rd1,e4',b4,hst,p4]
 obtain⟨h5,e5⟩:∃ h5,h5=h4.put bb (some (AB.arr cells' tt.blk)):=⟨_,rfl⟩
 rw[←e5]
 have ok5:Ok h5:=by rw[e5];exact jas ok4
 have g5:∀ n,n≠bb->h5.get n=h4.get n:=fun n hn=>by rw[e5,jak ok4 hbb.1,if_neg hn]
 have b5:h5.get bb=some (AB.arr cells' tt.blk):=by rw[e5,jak ok4 hbb.1,if_pos rfl]
 have n5:h5.next=h2.next+2:=by rw[e5,Hp.next_put,n4]
 clear e5
 have k5:∀ n,n<h2.next->n∉nc->n≠bb->h5.get n=h2.get n:=fun n h1 h3' h4'=>(g5 n h4').trans (kp4 n h1 h3')
 have q1:∀ n∈n1,n∉nc/\n≠bb:=fun n hn=>⟨fun h1=>(lo1 n hn).2.2 (sub_nc n h1),fun h1=>(lo1 n hn).2.2 (by simp[h1])⟩
 have qA:∀ n∈m1++(bb::(M1++(na++nb))),n∉nc:=fun n hn h1=>hd3.2.2 n hn n (by simp[h1]) rfl
 have hd4:=f0m.1 hd3.2.1
 have qB:∀ n∈M2++m3,n∉nc:=fun n hn h1=>hd4.2.2 n h1 n hn rfl
 have hd5:=f0m.1 hd3.1
 have hd6:=f0r.1 hd5.2.1
 have b1:∀ n∈m1,n≠bb:=fun n hn e=>hd5.2.2 n hn bb se e
 have b2:∀ n∈M1++(na++nb),n≠bb:=fun n hn e=>hd6.1 (e▸hn)
 have b3:∀ n∈nc++(M2++m3),n≠bb:=fun n hn e=>hd3.2.2 bb se n hn e.symm
 have K:∀ n,n∈m1∨n∈M1∨n∈na∨n∈nb∨n∈M2∨n∈m3->h5.get n=h2.get n:=fun n hn=>by
  refine k5 n (lt' n ?_) ?_ ?_
  .rcases hn with h | h | h | h | h | h<;>simp[h]
  .rcases hn with h | h | h | h | h | h
   .exact qA n (by simp[h])
   .exact qA n (by simp[h])
   .exact qA n (by simp[h])
   .exact qA n (by simp[h])
   .exact qB n (by simp[h])
   .exact qB n (by simp[h])
  .rcases hn with h | h | h | h | h | h
   .exact b1 n h
   .exact b2 n (by simp[h])
   .exact b2 n (by simp[h])
   .exact b2 n (by simp[h])
   .exact b3 n (by simp[h])
   .exact b3 n (by simp[h])
 have T:∀ n∈nc.tail,h5.get n=h2.get n:=fun n hn=>(g5 n (b3 n (by simp[f0j hn]))).trans (kt4 n hn hdnc)
 have X1:∀ n∈n1,h5.get n=h2.get n:=fun n hn=>k5 n (lo1 n hn).2.1 (q1 n hn).1 (q1 n hn).2
 have sE5:Sl h5 tt.edg 2 false (EE tt h5) (SV.slice (h2.next+1) 0 (blk.edges.length+1) (blk.edges.length+1) false 2) (blk.edges++[⟨to,args⟩]) ((h2.next+1)::(nc.tail++n1)):=by
  have:=sl4 (E':=EE tt h5) (fun row a m hm k=>k.keep (fun n hn=>by
   rcases hm n hn with h1 | h1
   .exact T n h1
   .exact X1 n h1))
  refine this.keep (fun n hn=>g5 n ?_)
  rcases f0f.1 hn with rfl | hn
  .omega
  .rcases f0e.1 hn with hn | hn
   .exact b3 n (by simp[f0j hn])
   .exact (q1 n hn).2
 have sB:=hset' (h':=h5) (E':=EB tt h5) (a':={ blk with edges:=blk.edges++[⟨to,args⟩] }) (ms':=na++(nb++((h2.next+1)::(nc.tail++n1)))) b5 ⟨pp,ia,_,na,nb,_,rfl,sp.keep (fun n hn=>K n (by simp[hn])),sI.imp (fun n hn=>K n (by simp[hn])) (fun row a ms hm k=>k.keep (fun n hn=>K n (by simp[hm n hn]))),sE5,rfl⟩ (fun row a m hm k=>k.keep (fun n hn=>by
  rcases f0e.1 (hm n hn) with h | h
  .exact K n (by simp[h])
  .exact K n (by simp[h])))
 have hmod:(jay w2 kk to args).blocks=w2.blocks.set kk { blk with edges:=blk.edges++[⟨to,args⟩] }:=by
  unfold jay;exact jd3 hblk
 rw[←hmod] at sB
 have hnk:(h2.next+1)∉nc/\(h2.next+1)∉n1:=⟨fun h1=>by have:=lt' _ (sub_nc _ h1);omega,fun h1=>by have:=(lo1 _ h1).2.1;omega⟩
 have nd5:((h2.next+1)::(nc.tail++n1)).Nodup:=jcr hdnc nd1 (fun n hn=>(q1 n hn).1) hnk.1 hnk.2
 have e6:m1++(bb::(M1++(na++(nb++((h2.next+1)::(nc.tail++n1)))++M2))++m3)=(m1++(bb::(M1++(na++nb))))++(((h2.next+1)::(nc.tail++n1))++(M2++m3)):=by simp[f0g]
 have old:∀ n,n∈(m1++(bb::(M1++(na++nb))))++(nc++(M2++m3))->n∈p::(m1++(bb::(M1++(na++(nb++nc)++M2))++m3)):=fun n hn=>by
  rw[←e0] at hn;exact f01 _ hn
 have hn6:∀ n∈(m1++(bb::(M1++(na++nb))))++(((h2.next+1)::(nc.tail++n1))++(M2++m3)),n∈p::(m1++(bb::(M1++(na++(nb++nc)++M2))++m3))∨n=h2.next+1∨n∈n1:=fun n hn=>by
  rcases f0e.1 hn with hn | hn
  .exact .inl (old n (f08 _ hn))
  .rcases f0e.1 hn with hn | hn
   .rcases f0f.1 hn with rfl | hn
    .exact .inr (.inl rfl)
    .rcases f0e.1 hn with hn | hn
     .exact .inl (sub_nc n (f0j hn))
     .exact .inr (.inr hn)
   .exact .inl (old n (f04 _ (f04 _ hn)))
 have nd6:(p::(m1++(bb::(M1++(na++(nb++((h2.next+1)::(nc.tail++n1)))++M2))++m3))).Nodup:=by
  rw[f0r]
  refine⟨fun h1=>?_,?_⟩
  .rw [e6] at h1
   rcases f0e.1 h1 with h1 | h1
   .exact (f0r.1 hd).1 (by rw[e0];exact f08 _ h1)
   .rcases f0e.1 h1 with h1 | h1
    .rcases f0f.1 h1 with h1 | h1
     .omega
     .rcases f0e.1 h1 with h1 | h1
      .exact hpn (f0j h1)
      .exact (lo1 p h1).2.2 se
    .exact (f0r.1 hd).1 (by rw[e0];exact f04 _ (f04 _ h1))
  .rw [e6]
   refine jgz hdt nd5 (fun n hn=>?_)
   rcases f0f.1 hn with rfl | hn
   .exact .inr (fun h1=>by have:=lt' _ (old _ h1);omega)
   .rcases f0e.1 hn with hn | hn
    .exact .inl (f0j hn)
    .exact .inr (fun h1=>(lo1 n hn).2.2 (old n h1))
 have lt6:∀ n∈p::(m1++(bb::(M1++(na++(nb++((h2.next+1)::(nc.tail++n1)))++M2))++m3)),1<=n/\n<h5.next:=fun n hn=>by
  rcases f0f.1 hn with rfl | hn
  .omega
  .rw [e6] at hn
   rcases hn6 n hn with h1 | h1 | h1
   .have:=hlt n h1;omega
   .omega
   .have:=lo1 n h1;omega
 refine⟨_,⟨⟨av,bv,kv,m1,_,m3,(g5 p hpb).trans p4,hv.keep (fun n hn=>K n (by simp[hn])),sB,hk.keep (fun n hn=>K n (by simp[hn])),rfl⟩,nd6,lt6⟩,⟨ok5,oa,fun n hn=>?_,fun n h1 h3'=>?_⟩⟩
 .have hn':n∈p::(m1++(bb::(M1++(na++(nb++nc)++M2))++m3))∨n=h2.next+1∨n∈n1:=by
   rcases f0f.1 hn with rfl | hn
   .exact .inl se
   .rw [e6] at hn;exact hn6 n hn
  rcases hn' with h1 | h1 | h1
  .have:=f08 n1 h1
   exact .inl this
  .exact .inr oa
  .exact .inl (by simp[h1])
 .have hno:n∉p::(m1++(bb::(M1++(na++(nb++nc)++M2))++m3)):=fun h4'=>h3' (by have:=f08 n1 h4';exact this)
  exact k5 n h1 (fun h4'=>hno (sub_nc n h4')) (fun e=>hno (by simp[e]))
end
theorem qfv {p:Pc} {flags uses i:Nat} {x:Iw×Nat×Ms}:∃ o∈(jfm p flags uses i x).1.ops,o.kind=2:=by
 unfold jfm
 simp only
 split<;>exact⟨_,f04 _ (f0v.2 rfl),rfl⟩
theorem qfw {p:Pc} {flags uses i:Nat} {x:Iw×Nat×Ms}:∀ o∈x.1.ops,o∈(jfm p flags uses i x).1.ops:=by
 intro o ho
 unfold jfm
 simp only
 split<;>simp[ho]
theorem jwd {p:Pc} {flags uses:Nat}:∀ (d i:Nat) (x:Iw×Nat×Ms),∀ o∈x.1.ops,o∈(jeb p flags uses d i x).1.ops
 | 0,i,x,o,h=>h
 | d+1,i,x,o,h=>jwd d (i+1) _ o (qfw o h)
theorem jpl {w:Ms} {p:Pc}:(jcp w p).known≠[]:=by
 have h:∃ o∈(ja4 w p).1.ops,o.kind=2:=by
  unfold ja4
  simp only
  rw[Nat.add_comm 1]
  obtain⟨o,h1,h2⟩:=qfv (p:=p) (flags:=pk p.flags (2 ^ 30)) (uses:=(jfg w p (pk p.flags (2 ^ 30)) (if w.known=[] then 0 else pk p.flags (2 ^ 30) % 4) 0 ⟨[],pk p.limits (2 ^ 40),(0,0),(0,0)⟩).ops.length) (i:=0) (x:=(jfg w p (pk p.flags (2 ^ 30)) (if w.known=[] then 0 else pk p.flags (2 ^ 30) % 4) 0 ⟨[],pk p.limits (2 ^ 40),(0,0),(0,0)⟩,(jfg w p (pk p.flags (2 ^ 30)) (if w.known=[] then 0 else pk p.flags (2 ^ 30) % 4) 0 ⟨[],pk p.limits (2 ^ 40),(0,0),(0,0)⟩).ops.length,w))
  exact⟨o,jwd _ 1 _ o h1,h2⟩
 obtain⟨o,h1,h2⟩:=h
 intro h3
 have h4:(ja4 w p).2.known++jdb (ja4 w p).1=[]:=h3
 have h5:=(List.append_eq_nil_iff.1 h4).2
 unfold jdb at h5
 have h6:o.value∈((ja4 w p).1.ops.filter (fun o=>o.kind=2)).map (·.value):=f1j.2 ⟨o,List.mem_filter.2 ⟨h1,by simpa using h2⟩,rfl⟩
 rw[h5] at h6
 cases h6
section
variable {F:Fns} (B:Base F)
include B
theorem jpm {hi:Hp} {p bx:Nat} {w:Ms} {ns:List Nat} (ok:Ok hi) (mr:MR tt hi p w ns) {N:Nat} (wk:Wok w N) (hN:N<=90000) {cls:Nat} {a x3:AV} {Q:Ex->St->Prop}:∀ (n:Nat) (i:Int) (_:i=n - 1∨(n=0/\i<0/\-10<=i)) (_:n<=w.known.length) (x4 x5:AV)
 (hF:jsy w cls n=none->∀ x4 x5 i,Q (.exit 0) (.mk [.s (.ptr p 0),vi cls,a,x3,x4,x5,vi i,.s (.ptr bx 0)] hi))
 (hS:∀ v,jsy w cls n=some v->∀ x4 x5 i,Q .ret (.mk [.s (.ptr p 0),vi cls,a,vi v,x4,x5,vi i,.s (.ptr bx 0)] hi)),
 W F jie.loop (.mk [.s (.ptr p 0),vi cls,a,x3,x4,x5,vi i,.s (.ptr bx 0)] hi) Q
 | 0,i,h1,h2,x4,x5,hF,hS=>by
  rw[jai]
  unfold jie
  have h3:¬ (0<=i):=oa
  simp(disch:=go_num) only[go_sem,h3]
  exact hF rfl _ _ _
 | n+1,i,h1,h2,x4,x5,hF,hS=>by
  rw[jai]
  unfold jie
  have h3:i=(n:Int):=oa
  subst h3
  have h4:(0<=(n:Int)):=oa
  obtain⟨⟨av,bv,kv,n1,n2,n3,hg,hv,hb,hk,e0⟩,hd,hlt⟩:=id mr
  obtain⟨v,hv1⟩:∃ v,w.known[n]?=some v:=⟨_,f0b h2⟩
  have hvl:=wk.known v (f0c hv1)
  obtain⟨kb,krow,kms,ke1,ke2,ke3,⟨rfl,rfl⟩,ke5,ke6⟩:=hk.at hv1
  obtain⟨c,hc1⟩:∃ c,w.values[v]?=some c:=⟨_,f0b hvl⟩
  obtain⟨vb1,vrow,vms,ve1,ve2,ve3,⟨rfl,rfl⟩,ve5,ve6⟩:=hv.at hc1
  have hfind:jsy w cls (n+1)=if c=cls then some v else jsy w cls n:=by
   show(if w.values.getD (w.known.getD n 0) 0=cls then _ else _)=_
   simp only[f0p,hv1,hc1,f1l]
  have hnk:=wk.nk
  by_cases hc:(c:Int)=cls
  .have hc':c=cls:=oa
   simp(disch:=go_num) only[go_sem,eq_true h4,hg,ke1,ke2,ve1,ve2,eq_true hc]
   exact hS v (by rw[hfind,if_pos hc']) _ _ _
  .have hc':c≠cls:=oa
   simp(disch:=go_num) only[go_sem,eq_true h4,hg,ke1,ke2,ve1,ve2,eq_false hc,jad]
   exact jpm ok mr wk hN n _ (.inl rfl) oa _ _ (fun h=>hF (by rw[hfind,if_neg hc',h])) (fun v h=>hS v (by rw[hfind,if_neg hc',h]))
theorem Wok.newest {w:Ms} {N:Nat} (wk:Wok w N) (cls:Nat) (p:Pc):Wok (jac w cls p).2 (N+10):=by
 unfold jac
 split
 .exact ⟨wk.m1,wk.m2,wk.vals,wk.known,wk.cur,f1q wk.nv,f1q wk.nb,f1q wk.nk,fun b hb=>by have:=wk.ni b hb;omega,f1q wk.na⟩
 .exact wk.lay _
theorem j9b {h:Hp} {p:Nat} {w:Ms} {ns:List Nat} (ok:Ok h) (mr:MR tt h p w ns) {N:Nat} (wk:Wok w N) (hN:N<=79000) (cls:Nat) (hcls:cls<2) (pc:Pc) (pin:Pin pc) :
 WC F 50 [.s (.ptr p 0),vi cls,.agg (jb8 pc)] h (fun v h'=>v=vi (jac w cls pc).1/\∃ ns',MR tt h' p (jac w cls pc).2 ns'/\Mv h h' ns ns'):=by
 refine jaz (B.no 50 se _ _) ((B.T _).trans qfj) rfl ?_
 unfold jv5
 have hpos:=ok.pos
 obtain⟨hA,eA⟩:∃ hA,hA=h.push (AB.arr (jb8 pc) 90):=⟨_,rfl⟩
 have okA:Ok hA:=by rw[eA];exact ja9 ok
 have gA:∀ n,n<h.next->hA.get n=h.get n:=fun n hn=>by rw[eA,ja3 ok,if_neg oa]
 have oA:hA.get h.next=some (.arr (jb8 pc) 90):=by rw[eA,ja3 ok,if_pos rfl]
 have nA:hA.next=h.next+1:=by rw[eA,Hp.next_push]
 have eA':h.push (AB.arr [si pc.kind,si pc.op,si pc.a,si pc.b,si pc.c,si pc.limits,si pc.flags] 90)=hA:=by rw[eA];rfl
 clear eA
 have mrA:=mr.keep (h':=hA) (fun n hn=>gA n (mr.lt n hn).2) oa
 have mvA:Mv h hA ns ns:=⟨okA,oa,fun n hn=>.inl hn,fun n h1 h2=>gA n h1⟩
 unfold jb8 at oA
 obtain⟨⟨av,bv,kv,n1,n2,n3,hg,hv,hb,hk,e0⟩,hd,hlt⟩:=id mrA
 have kl:=hk.len
 have hnk:=wk.nk
 obtain⟨⟨q1,q2⟩,⟨q3,q4⟩,⟨q5,q6⟩,⟨q7,q8⟩,⟨q9,q10⟩,⟨q11,q12⟩,⟨q13,q14⟩⟩:=id pin
 have hp3:pk pc.b 3<3:=jew oa
 simp(disch:=go_num) only[go_sem,jfo,jfp,jfq,jfr,jfs,jbx,jao,jal,jbe B,jb8,eA',hg,oA,kl,jad]
 refine jpm B okA mrA wk oa (w.known.length - pk pc.b 3) _ oa (Nat.sub_le _ _) _ _ (fun hF x4 x5 i=>?_) (fun v hF x4 x5 i=>?_)
 .have hnew:jac w cls pc=((jcp w { pc with c:=3*cls }).known.getD ((jcp w { pc with c:=3*cls }).known.length - 1) 0,jcp w { pc with c:=3*cls }):=by
   unfold jac;rw[hF]
  rw[hnew]
  have hbx:∀ n∈ns,n≠h.next:=fun n hn e=>by have:=(mr.lt n hn).2;omega
  obtain⟨hB,eB⟩:∃ hB,hB=hA.put h.next (some (AB.arr [si pc.kind,si pc.op,si pc.a,si pc.b,si (3*(cls:Int)),si pc.limits,si pc.flags] 90)):=⟨_,rfl⟩
  have okB:Ok hB:=by rw[eB];exact jas okA
  have gB:∀ n,n≠h.next->hB.get n=hA.get n:=fun n hn=>by rw[eB,jak okA hpos,if_neg hn]
  have oB:hB.get h.next=some (AB.arr [si pc.kind,si pc.op,si pc.a,si pc.b,si (3*(cls:Int)),si pc.limits,si pc.flags] 90):=by rw[eB,jak okA hpos,if_pos rfl]
  have nB:hB.next=h.next+1:=by rw[eB,Hp.next_put,nA]
  have mrB:=mrA.keep (h':=hB) (fun n hn=>gB n (hbx n hn)) oa
  have mvB:Mv h hB ns ns:=⟨okB,oa,fun n hn=>.inl hn,fun n h1 h2=>(gB n oa).trans (gA n h1)⟩
  have h3c:(3*(cls:Int))<=3/\0<=3*(cls:Int):=oa
  simp(disch:=go_num) only[go_sem,oA,jad]
  rw[←eB]
  refine WC.imp (qhx B okB mrB wk oa { pc with c:=3*cls } ⟨⟨q1,q2⟩,⟨q3,q4⟩,⟨q5,q6⟩,⟨q7,q8⟩,⟨by show _<=3*(cls:Int);omega,by show 3*(cls:Int)<=_;omega⟩,⟨q11,q12⟩,⟨q13,q14⟩⟩) ?_
  rintro _ h2 ⟨rfl,ns',mr2,mv2⟩
  have wk2:=wk.lay { pc with c:=3*cls }
  have hne:=jpl (w:=w) (p:={ pc with c:=3*cls })
  generalize jcp w { pc with c:=3*cls }=w2 at mr2 wk2 hne ⊢
  have mrr:=mr2
  obtain⟨⟨av2,bv2,kv2,m1,m2,m3,hg2,hv2,hb2,hk2,e2⟩,hd2,hlt2⟩:=mr2
  have hl2:0<w2.known.length:=f1v.2 hne
  obtain⟨v,hv3⟩:∃ v,w2.known[w2.known.length - 1]?=some v:=⟨_,f0b oa⟩
  obtain⟨kb,krow,kms,ke1,ke2,ke3,⟨rfl,rfl⟩,ke5,ke6⟩:=hk2.at hv3
  have kl2:=hk2.len
  have hnk2:=wk2.nk
  have ok2:=mv2.ok
  have hgd:w2.known.getD (w2.known.length - 1) 0=v:=by rw[f0p,hv3,f1l]
  have hsub:((w2.known.length:Int) - 1)=((w2.known.length - 1:Nat):Int):=oa
  simp(disch:=go_num) only[go_sem,hg2,kl2,jad,hsub,ke1,ke2,hgd]
  exact⟨ns',mrr,mvB.trans mv2⟩
 .have hnew:jac w cls pc=(v,w):=by unfold jac;rw[hF]
  rw[hnew]
  simp(disch:=go_num) only[go_sem]
  exact⟨ns,mrA,mvA⟩
end
open Go Go.RowKit
variable {x0 x1 x2 x3 x4 x5 x6 x7 x8 x9 x10 x12:AV} {Q:Ex->St->Prop} {fr st:List AV} {n2 ns2:List Nat} {w2:Ms} {size:Nat} {xl xo:SV}
def jwe:IC:=.region [qQ 2 (.mv (qC 0))]
def jwf:IC:=.region [qP (.build Zi []),qB 4 (.new 58 Zi),qA (.store 3 qa qb)]
def jwg:IC:=.region [qQ 5 (.mv (.g 1)),qQ 7 (.len qa),qQ 8 (.mv (qC 0))]
def jpn:IC:=.region [qQ 6 (.bin .lt (.g 8) (.g 7))]
def jpo:IC:=qX 6 0
def jwh:IC:=.region [qP (.ixs 1 (.g 5) (.g 8)),qL,qT 3]
def jwi:List (IOper×List Nat):=[(qF 0 4,[]),(qL,[]),(qM 0,[]),(qM 3,[]),(qA (.call 48 [qb,qa]),[2]),(qA (.bslice 3 1 [.int .i64 0] 1 [(0,(1,qa))]),[3]),(qA (.app 3 1 8 (.l 4) qa),[]),(qF 0 4,[]),(qA (.store 1 qa qb),[])]
def jwj:IC:=.region [qI 8,qT 8]
def jpp:IB:=.seq (.c jpn) (.seq (.c jpo) (.seq (.block 1 (.seq (.c jwh) (.flo jwi))) (.c jwj)))
def jwk:List (IOper×List Nat):=[(qM 0,[]),(qM 0,[]),(qN,[]),(qG 2,[]),(qG 1,[]),(qL,[]),(qA (.load 3 true (.g 4)),[0]),(qA (.bslice 58 3 Zi 1 [(0,(3,qa))]),[1]),(qA (.app 58 3 72 qc qa),[]),(qP (.nchk (.l 8)),[]),(qG 2,[]),(qG 1,[]),(qA (.store 1 qa qd),[])]
def jwl:IC:=.region [qM 0,qN,qG 2,qG 1,qL,qP (.len qa),qP (.bin .sub qa (qC 1)),qT 2]
def jwm:IC:=.ret
def jm8:IB:=.seq (.c jwe) (.seq (.c jwf) (.seq (.seq (.c jwg) (.block 0 (.loop jpp))) (.seq (.flo jwk) (.seq (.c jwl) (.c jwm)))))
theorem qfx:TB 27 true=some (.mk jm8 2 7 [(.tmp 2)]):=ka
def noB (_:FuncId):Bool:=false
theorem j06:∀ f,noB f=true->qus Tryz.prog f:=fun f hf=>by cases hf
theorem quy {q:FB1} {fl:Bool} (hq:TB q.f fl=some (.mk q.ib q.nargs q.nslots q.res)):FbOk Tryz.prog tys q:=by
 obtain⟨fn,hfn,hcomp⟩:=jaa.1 (show ob (Tryz.prog.funcs[q.f]?) (qmk tys fl)=_ from hq)
 unfold qmk at hcomp
 split at hcomp
 .cases hcomp
 .rename_i b hb
  dsimp only at hcomp
  split at hcomp
  .rename_i c r hc hr
   cases hna:Nat.ble (fn.params.size+fn.nfree) fn.ntmps with
   | false=>rw[hna] at hcomp;cases hcomp
   | true =>
    rw[hna] at hcomp
    have h1:IFB.mk c (fn.params.size+fn.nfree) (jb6 (j6k (fn.params.size+fn.nfree) (jlx (fn.params.size+fn.nfree) [] b) fn.results.toList)) r=.mk q.ib q.nargs q.nslots q.res:=Option.some.inj hcomp
    obtain⟨e1,e2,e3,e4⟩:=IFB.mk.inj h1
    rw[e1,e2] at hc
    rw[e2,e4] at hr
    refine⟨⟨fn,hfn,by rw[hb];rfl,?_⟩,fn,b,_,fl,hfn,hb,by rw[←e2];exact f0l hna,hc,hr⟩
    have:=f24.1 qsj fn (by
     rw[←f1g] at hfn
     exact f0c hfn)
    simpa using this
  .cases hcomp
def jgm:FB1:=⟨27,jm8,2,7,[(.tmp 2)]⟩
def F2:Fns:=BX noB jgm F1
theorem q4s {A:Nat->Int}:Env Tryz.prog A tys F1:=jer q4q
theorem q4t {A:Nat->Int}:Env Tryz.prog A tys F2:=j0z q4s j06 (quy qfx)
theorem qsp:Base F1 where
 T:=fun f=>rfl
 pk:=fun vs h=>rfl
 no:=fun f hf vs h=>by
  have:S1 f=false:=by rcases hf with rfl | rfl | rfl | rfl | rfl | rfl<;>rfl
  exact(ja0 this).trans qzu
theorem jhw:Base F2 where
 T:=fun f=>rfl
 pk:=fun vs h=>jg7 rfl
 no:=fun f hf vs h=>by
  have:Nat.beq f jgm.f=false:=by rcases hf with rfl | rfl | rfl | rfl | rfl | rfl<;>rfl
  exact(jg7 this).trans (qsp.no f hf vs h)
theorem jf2 {o:AO} {h:Hp} {v:AV}:(flE st fr o h v).ld=true:=rfl
theorem jg8 {o:AO} {h h' h2:Hp} {v:AV} (k:jd8 st fr h' o=some (v,h2)):(flE st fr o h v).ev h'=some (flE st fr o h v).v:=by
 show ob (jd8 st fr h' o) (fun q=>some q.1)=some v
 rw[k];rfl
theorem j9c {b o n m z:Nat} {e:Bool}:eqN (.s (.slice b o n m e z)) (.s (.slice b o n m e z))=true:=by
 show oif (Nat.beq b b) (oif (Nat.beq o o) (oif (Nat.beq n n) (oif (Nat.beq m m) (oif (qk2 e e) (Nat.beq z z) false) false) false) false) false=true
 simp only[f1w]
 cases e<;>rfl
theorem Sl.eqN {α:Type} {h:Hp} {ty sz:Nat} {ex:Bool} {E:List SV->α->List Nat->Prop} {x:SV} {l:List α} {ns:List Nat} (k:Sl h ty sz ex E x l ns):eqN (.s x) (.s x)=true:=by
 rcases k with⟨_,rfl,_⟩ | ⟨_,b,rows,nss,rfl,_⟩
 .rfl
 .exact j9c
theorem jza {a n:Nat}:List.range' a n++[a+n]=List.range' a (n+1):=by rw[List.range'_concat,Nat.one_mul]
theorem jrw {h:Hp} {p bx:Nat} {w:Ms} {ns:List Nat} {cs:List Nat} {nsx:List Nat} (hns:∀ n∈ns,n<h.next) (hbx1:h.next<=bx) (hpos:1<=h.next) (hcs:∀ c∈cs,c<2) (hx:∀ n∈nsx,n<h.next/\n∉ns) (hlen:w.values.length+cs.length<=90000) :
 ∀ (rest done:List Nat) (_:done++rest=cs) {hi:Hp} {ns' nsp:List Nat} {pp:SV} (_:Ok hi) (_:MR tt hi p { w with values:=w.values++done } ns') (_:Mv h hi ns ns') (_:bx<hi.next/\bx∉ns') (_:hi.get bx=some (.arr [pp,.nilSlice,.nilSlice] 58))
  (_:Sl hi 3 1 false EI pp (List.range' w.values.length done.length) nsp) (_:∀ n∈nsp,h.next<=n/\n<hi.next/\n∉ns'/\n≠bx) (_:nsp.Nodup) (_:Sl hi 3 1 true EI xo cs nsx) {x3 x6:AV}
  (hQ:∀ hj ns'' nsp' pp' x3 x6,Ok hj->MR tt hj p { w with values:=w.values++cs } ns''->Mv h hj ns ns''->bx<hj.next/\bx∉ns''->hj.get bx=some (.arr [pp',.nilSlice,.nilSlice] 58)->Sl hj 3 1 false EI pp' (List.range' w.values.length cs.length) nsp'->(∀ n∈nsp',h.next<=n/\n<hj.next/\n∉ns''/\n≠bx)->nsp'.Nodup ->
   Q (.exit 0) (.mk [.s (.ptr p 0),.s xo,x2,x3,.s (.ptr bx 0),.s xo,x6,vi cs.length,vi cs.length] hj)),
  WB F1 noB (.loop jpp) (.mk [.s (.ptr p 0),.s xo,x2,x3,.s (.ptr bx 0),.s xo,x6,vi cs.length,vi done.length] hi) Q
 | [],done,hdn,hi,ns',nsp,pp,ok,mr,mv,hb,hg,sp,lo,nd,sx,x3,x6,hQ=>by
  rw[f06] at hdn
  subst hdn
  refine WB.loop ?_
  unfold jpp
  refine WB.seq (WB.c ?_)
  unfold jpn
  simp(disch:=go_num) only[go_sem,f0s]
  refine WB.seq (WB.c ?_)
  unfold jpo
  simp(disch:=go_num) only[go_sem]
  exact hQ hi _ _ _ _ _ ok mr mv hb hg sp lo nd
 | c::rest,done,hdn,hi,ns',nsp,pp,ok,mr,mv,hb,hg,sp,lo,nd,sx,x3,x6,hQ=>by
  have hlen1:done.length<cs.length:=by rw[←hdn];simp
  have hlt1:(done.length:Int)<cs.length:=oa
  have hget:cs[done.length]?=some c:=by rw[←hdn];simp
  have hc2:=hcs c (f0c hget)
  obtain⟨ob1,orow,oms,oe1,oe2,oe3,⟨rfl,rfl⟩,oe5,oe6⟩:=sx.at hget
  have hob:=hx ob1 oe6
  refine WB.loop (WB.seq (WB.c ?_))
  unfold jpn
  simp(disch:=go_num) only[go_sem,eq_true hlt1]
  refine WB.seq (WB.c ?_)
  unfold jpo
  simp(disch:=go_num) only[go_sem]
  refine WB.seq (WB.block (WB.seq (WB.c ?_)))
  unfold jwh
  simp(disch:=go_num) only[go_sem,oe1,oe2]
  refine WB.flo ?_
  unfold jwi
  refine WL.pure (v:=.s (.ptr bx 0)) (by simp only[go_sem]) ?_
  refine WL.ld (v:=.s pp) (h':=hi) rfl (by simp only[go_sem,hg]) se sp.eqN ?_
  refine WL.pure (v:=.s (.ptr p 0)) (by simp only[go_sem]) ?_
  refine WL.pure (v:=vi c) (by simp only[go_sem]) ?_
  refine WL.call (vs:=[.s (.ptr p 0),vi c]) (by simp only[go_sem]) ?_
  refine WC.imp (j01 qsp ok mr c hc2 (by simp;omega)) ?_
  rintro _ h2 ⟨rfl,ns2,mr2,mv2⟩
  have ok2:=mv2.ok
  have g2:∀ n,n<hi.next->n∉ns'->h2.get n=hi.get n:=mv2.keep
  have b2:h2.get bx=some (.arr [pp,.nilSlice,.nilSlice] 58):=(g2 bx hb.1 hb.2).trans hg
  refine⟨fun j hj=>by simp at hj;subst hj;exact⟨_,rfl,jf2,jg8 (h2:=h2) (by simp only[go_sem,b2]),sp.eqN⟩,?_⟩
  have hk:(w.values++done).length=w.values.length+done.length:=se
  have hkk:({ w with values:=w.values++done }:Ms).values.length=w.values.length+done.length:=hk
  rw[hkk]
  have p2:∀ n,n<h2.next->(h2.push (AB.arr [si ((w.values.length+done.length:Nat):Int)] 3)).get n=h2.get n:=fun n hn=>by rw[ja3 ok2,if_neg oa]
  refine WL.mem (v:=.s (.slice h2.next 0 1 1 true 1)) (h':=h2.push (AB.arr [si ((w.values.length+done.length:Nat):Int)] 3)) rfl rfl (by simp(disch:=go_num) only[go_sem]) (fun j hj=>by simp at hj;subst hj;exact⟨_,rfl,jf2,jg8 (h2:=h2.push (AB.arr [si ((w.values.length+done.length:Nat):Int)] 3)) (by have:=(p2 bx (by have:=mv2.nx;omega)).trans b2;simp only[go_sem,this]),sp.eqN⟩) ?_
  have sp2:=sp.keep (h':=h2) (fun n hn=>g2 n (lo n hn).2.1 (lo n hn).2.2.1)
  have mn2:=mv2.nx
  obtain⟨h4,e4,ok4,n4,kp4,kt4,sl4⟩:=sp2.app1 (bytes:=8) (row:=[si ((w.values.length+done.length:Nat):Int)]) (a:=w.values.length+done.length) (ms:=[]) ok2 (fun n hn=>by have:=lo n hn;omega) rfl ⟨rfl,rfl⟩ (by rw[List.length_range'];omega) (by rw[List.length_range'];omega)
  have sl5:=sl4 (E':=EI) (fun _ _ _ _ h=>h)
  rw[List.length_range'] at e4 sl5
  rw[jza] at sl5
  refine WL.mem (v:=.s (.slice (h2.next+1) 0 (done.length+1) (done.length+1) false 1)) (h':=h4) rfl rfl (by simp only[go_sem,e4]) (fun j hj=>by simp at hj) ?_
  refine WL.pure (v:=.s (.ptr bx 0)) (by simp only[go_sem]) ?_
  have bnp:bx∉nsp:=fun h1=>(lo bx h1).2.2.2 rfl
  have b4:h4.get bx=some (.arr [pp,.nilSlice,.nilSlice] 58):=(kp4 bx oa bnp).trans b2
  refine WL.mem (v:=.undef) (h':=h4.put bx (some (.arr [.slice (h2.next+1) 0 (done.length+1) (done.length+1) false 1,.nilSlice,.nilSlice] 58))) rfl rfl (by simp(disch:=go_num) only[go_sem,b4]) (fun j hj=>by simp at hj) ?_
  refine WL.nil ?_
  obtain⟨h5,e5⟩:∃ h5,h5=h4.put bx (some (.arr [.slice (h2.next+1) 0 (done.length+1) (done.length+1) false 1,.nilSlice,.nilSlice] 58)):=⟨_,rfl⟩
  rw[←e5]
  have hbp:1<=bx:=oa
  have ok5:Ok h5:=by rw[e5];exact jas ok4
  have g5:∀ n,n≠bx->h5.get n=h4.get n:=fun n hn=>by rw[e5,jak ok4 hbp,if_neg hn]
  have b5:h5.get bx=some (.arr [.slice (h2.next+1) 0 (done.length+1) (done.length+1) false 1,.nilSlice,.nilSlice] 58):=by rw[e5,jak ok4 hbp,if_pos rfl]
  have n5:h5.next=h2.next+2:=by rw[e5,Hp.next_put,n4]
  clear e5
  refine WB.c ?_
  unfold jwj
  have hlen2:(done++[c]).length=done.length+1:=se
  have hsucc:((done.length:Int)+1)=(((done++[c]).length:Nat):Int):=by rw[hlen2];omega
  simp(disch:=go_num) only[go_sem,jad,hsucc]
  have bn2:bx∉ns2:=fun h1=>by
   rcases mv2.new bx h1 with h3 | h3
   .exact hb.2 h3
   .omega
  have lt2:=fun n hn=>(mr2.lt n hn).2
  have ns2p:∀ n∈ns2,n∉nsp:=fun n hn h1=>by
   rcases mv2.new n hn with h3 | h3
   .exact (lo n h1).2.2.1 h3
   .have:=(lo n h1).2.1;omega
  have k5:∀ n∈ns2,h5.get n=h2.get n:=fun n hn=>(g5 n (fun e=>bn2 (e▸hn))).trans (kp4 n (lt2 n hn) (ns2p n hn))
  have mr5:=mr2.keep (h':=h5) k5 oa
  have hns':∀ n,n<h.next->n∉ns->n∉ns':=fun n h1 h3 h4'=>by
   rcases mv.new n h4' with h5' | h5'
   .exact h3 h5'
   .omega
  have old5:∀ n,n<h.next->n∉ns->h5.get n=hi.get n:=fun n h1 h3=>(g5 n oa).trans ((kp4 n (by have:=mv.nx;omega) (fun h4'=>by have:=(lo n h4').1;omega)).trans (g2 n (by have:=mv.nx;omega) (hns' n h1 h3)))
  have mv5:Mv h h5 ns ns2:=⟨ok5,by have:=mv.nx;omega,fun n hn=>(mv.trans mv2).new n hn,fun n h1 h3=>(old5 n h1 h3).trans (mv.keep n h1 h3)⟩
  have sl6:Sl h5 3 1 false EI (.slice (h2.next+1) 0 (done.length+1) (done.length+1) false 1) (List.range' w.values.length (done++[c]).length) ((h2.next+1)::(nsp.tail++[])):=by
   rw[hlen2]
   exact sl5.keep (fun n hn=>g5 n (by
    rcases f0f.1 hn with rfl | hn
    .omega
    .exact (lo n (f0j (by simpa using hn))).2.2.2))
  refine jrw hns hbx1 hpos hcs hx hlen rest (done++[c]) (by rw[←hdn];simp) ok5 (by simpa[f0g] using mr5) mv5 ⟨oa,bn2⟩ b5 sl6 (fun n hn=>?_) ?_ (sx.keep (fun n hn=>old5 n (hx n hn).1 (hx n hn).2)) hQ
  .rcases f0f.1 hn with rfl | hn
   .exact ⟨oa,oa,fun h1=>by have:=lt2 _ h1;omega,oa⟩
   .have h1:=f0j (by simpa using hn)
    exact⟨(lo n h1).1,by have:=(lo n h1).2.1;omega,fun h3=>ns2p n h3 h1,(lo n h1).2.2.2⟩
  .exact jcr nd .nil se (fun h1=>by have:=(lo _ h1).2.1;omega) se
theorem Wok.block {w:Ms} {N:Nat} (wk:Wok w N) (cs:List Nat) (h1:cs.length<=2) (h2:∀ c∈cs,c<2):Wok (jag w cs) (N+2):=by
 unfold jag
 refine⟨wk.m1,wk.m2,fun c hc=>?_,fun v hv=>by have:=wk.known v hv;grind,by have:=wk.cur;grind,by have:=wk.nv;grind,by have:=wk.nb;grind,f1q wk.nk,fun b hb=>?_,f1q wk.na⟩
 .rcases f0e.1 hc with h | h
  .exact wk.vals c h
  grind
 .rcases f0e.1 hb with h | h
  .have:=wk.ni b h;omega
  .obtain rfl:=f0v.1 h
   simp;omega
theorem js1 {h:Hp} {p:Nat} {w:Ms} {ns:List Nat} (ok:Ok h) (mr:MR tt h p w ns) {N:Nat} (hnv:w.values.length<=N) (hnb:w.blocks.length<=N) (hN:N<=79000) {cs:List Nat} {nsx:List Nat} (sx:Sl h 3 1 true EI xo cs nsx) (hc:cs.length<=2) (hcs:∀ c∈cs,c<2) (hx:∀ n∈nsx,n<h.next/\n∉ns) :
 WC F2 27 [.s (.ptr p 0),.s xo] h (fun v h'=>v=vi w.blocks.length/\∃ ns',MR tt h' p (jag w cs) ns'/\Mv h h' ns ns'):=by
 refine qfq (q:=jgm) rfl ?_
 show WB F1 noB jm8 (.mk _ h) (jqh [(.tmp 2)] _)
 unfold jm8
 have hpos:=ok.pos
 refine WB.seq (WB.c ?_)
 unfold jwe
 simp(disch:=go_num) only[go_sem]
 refine WB.seq (WB.c ?_)
 unfold jwf
 obtain⟨hA,eA⟩:∃ hA,hA=(h.push (AB.arr Zi 58)).put h.next (some (AB.arr Zi 58)):=⟨_,rfl⟩
 have okA:Ok hA:=by rw[eA];exact jas (ja9 ok)
 have gA:∀ n,n<h.next->hA.get n=h.get n:=fun n hn=>by
  rw[eA,jak (ja9 ok) hpos,ja3 ok,if_neg oa,if_neg oa]
 have oA:hA.get h.next=some (AB.arr Zi 58):=by
  rw[eA,jak (ja9 ok) hpos,if_pos rfl]
 have nA:hA.next=h.next+1:=by rw[eA,Hp.next_put,Hp.next_push]
 simp(disch:=go_num) only[go_sem]
 rw[←eA]
 clear eA
 refine WB.seq (WB.seq (WB.c ?_))
 unfold jwg
 have lx:=sx.len
 simp(disch:=go_num) only[go_sem,lx]
 have hns:∀ n∈ns,n<h.next:=fun n hn=>(mr.lt n hn).2
 have mrA:=mr.keep (h':=hA) (fun n hn=>gA n (hns n hn)) oa
 have mvA:Mv h hA ns ns:=⟨okA,oa,fun n hn=>.inl hn,fun n h1 h2=>gA n h1⟩
 refine WB.block (jrw (w:=w) (bx:=h.next) (nsp:=[]) (pp:=.nilSlice) hns (f0h _) hpos hcs hx oa cs [] rfl okA (by simpa using mrA) mvA ⟨oa,fun h1=>by have:=hns _ h1;omega⟩ oA Sl.nil se .nil (sx.keep (fun n hn=>gA n (hx n hn).1)) ?_)
 intro hj ns2 nsp pp x3 x6 okj mrj mvj hbj gj sp lo nd
 refine WB.seq (WB.flo ?_)
 unfold jwk
 obtain⟨⟨av,bv,kv,n1,n2,n3,hg,hv,hb,hk,rfl⟩,hd,hlt⟩:=mrj
 have hp:=hlt p se
 have hpb:p≠h.next:=fun e=>hbj.2 (by simp[←e])
 have hfb:∀ n∈nsp,n≠h.next:=fun n hn=>(lo n hn).2.2.2
 refine WL.pure (v:=.s (.ptr p 0)) (by simp only[go_sem]) ?_
 refine WL.pure (v:=.s (.ptr p 0)) (by simp only[go_sem]) ?_
 refine WL.pure (v:=.s (.ptr p 0)) (by simp only[go_sem]) ?_
 refine WL.pure (v:=.s (.ptr p 2)) (by simp only[go_sem]) ?_
 refine WL.pure (v:=.s (.ptr p 3)) (by simp only[go_sem]) ?_
 refine WL.ld (v:=.s bv) (h':=hj) rfl (by simp only[go_sem,hg]) se hb.eqN ?_
 have hag:eqN (.agg [pp,.nilSlice,.nilSlice]) (.agg [pp,.nilSlice,.nilSlice])=true:=by
  have:j7b pp pp=true:=sp.eqN
  show oif (j7b pp pp) (oif true (oif true true false) false) false=true
  rw[this];rfl
 refine WL.ld (v:=.agg [pp,.nilSlice,.nilSlice]) (h':=hj) rfl (by simp only[go_sem,gj]) (fun j hj=>by simp at hj;subst hj;exact⟨_,rfl,.inl jf2⟩) hag ?_
 have p2:∀ n,n<hj.next->(hj.push (AB.arr [pp,.nilSlice,.nilSlice] 58)).get n=hj.get n:=fun n hn=>by rw[ja3 okj,if_neg oa]
 refine WL.mem (v:=.s (.slice hj.next 0 1 1 true 3)) (h':=hj.push (AB.arr [pp,.nilSlice,.nilSlice] 58)) rfl rfl (by simp(disch:=go_num) only[go_sem]) (fun j hj'=>by simp at hj';subst hj';exact⟨_,rfl,jf2,jg8 (h2:=hj.push (AB.arr [pp,.nilSlice,.nilSlice] 58)) (by have:=(p2 p hp.2).trans hg;simp only[go_sem,this]),hb.eqN⟩) ?_
 have hEB:EB tt hj [pp,.nilSlice,.nilSlice] (⟨List.range' w.values.length cs.length,[],[]⟩:Blk) nsp:=⟨pp,_,_,nsp,[],[],rfl,sp,Sl.nil,Sl.nil,se⟩
 obtain⟨h4,e4,ok4,n4,kp4,kt4,sl4⟩:=hb.app1 (bytes:=72) (row:=[pp,.nilSlice,.nilSlice]) (a:=(⟨List.range' w.values.length cs.length,[],[]⟩:Blk)) (ms:=nsp) okj (fun n hn=>hlt n (by simp[hn])) rfl hEB (by simp only;omega) (by simp only;omega)
 refine WL.mem (v:=.s (.slice (hj.next+1) 0 (w.blocks.length+1) (w.blocks.length+1) false 3)) (h':=h4) rfl rfl (by simp only[go_sem];exact e4) (fun j hj=>by simp at hj) ?_
 refine WL.pure (v:=.s (.ptr p 0)) (by simp only[go_sem]) ?_
 refine WL.pure (v:=.s (.ptr p 2)) (by simp only[go_sem]) ?_
 refine WL.pure (v:=.s (.ptr p 3)) (by simp only[go_sem]) ?_
 have hpn2:p∉n2:=fun e=>(f0r.1 hd).1 (by simp[e])
 have p4:h4.get p=_:=(kp4 p hp.2 hpn2).trans hg
 refine WL.mem (v:=.undef) (h':=h4.put p (some (.arr [si w.m.1,si w.m.2,av,.slice (hj.next+1) 0 (w.blocks.length+1) (w.blocks.length+1) false 3,si w.cur,kv,si w.all] tt.mas))) rfl rfl (by simp(disch:=go_num) only[go_sem,p4]) (fun j hj=>by simp at hj) ?_
 refine WL.nil ?_
 have hdt:=(f0r.1 hd).2
 have hd1:=f0m.1 hdt
 have hd2:=f0m.1 hd1.2.1
 have k1:∀ n∈n1,h4.get n=hj.get n:=fun n hn=>kp4 n (hlt n (by simp[hn])).2 (fun h1=>hd1.2.2 n hn n (by simp[h1]) rfl)
 have k3:∀ n∈n3,h4.get n=hj.get n:=fun n hn=>kp4 n (hlt n (by simp[hn])).2 (fun h1=>hd2.2.2 n h1 n hn rfl)
 have k2:∀ n∈n2.tail,h4.get n=hj.get n:=fun n hn=>kt4 n hn hd2.1
 have hfn:∀ n∈nsp,n∉p::(n1++(n2++n3)):=fun n hn=>(lo n hn).2.2.1
 have k4:∀ n∈nsp,h4.get n=hj.get n:=fun n hn=>kp4 n (lo n hn).2.1 (fun h1=>hfn n hn (by simp[h1]))
 have sb:=sl4 (E':=EB tt h4) (fun row a m hm k=>k.keep (fun n hn=>by
  rcases hm n hn with h1 | h1
  .exact k2 n h1
  .exact k4 n h1))
 have nd2:((hj.next+1)::(n2.tail++nsp)).Nodup:=jcr hd2.1 nd (fun n hn h1=>hfn n hn (by simp[h1])) (fun h1=>by have:=(hlt (hj.next+1) (by simp[h1])).2;omega) (fun h1=>by have:=(lo _ h1).2.1;omega)
 have nd3:(n1++(((hj.next+1)::(n2.tail++nsp))++n3)).Nodup:=jgz hdt nd2 (fun n hn=>by
  rcases f0f.1 hn with rfl | hn
  .exact .inr (fun h1=>by have:=(hlt (hj.next+1) (f01 _ h1)).2;omega)
  .rcases f0e.1 hn with hn | hn
   .exact .inl (f0j hn)
   .exact .inr (fun h1=>hfn n hn (f01 _ h1)))
 have mem3:∀ n∈n1++(((hj.next+1)::(n2.tail++nsp))++n3),n∈n1++(n2++n3)∨n=hj.next+1∨n∈nsp:=fun n hn=>by
  rcases f0e.1 hn with hn | hn
  .exact .inl (by simp[hn])
  .rcases f0e.1 hn with hn | hn
   .rcases f0f.1 hn with rfl | hn
    .exact .inr (.inl rfl)
    .rcases f0e.1 hn with hn | hn
     .exact .inl (by simp[f0j hn])
     .exact .inr (.inr hn)
   .exact .inl (by simp[hn])
 have nd4:(p::(n1++(((hj.next+1)::(n2.tail++nsp))++n3))).Nodup:=f0r.2 ⟨fun h1=>by
  rcases mem3 p h1 with h3 | h3 | h3
  .exact (f0r.1 hd).1 h3
  .omega
  .exact hfn p h3 se,nd3⟩
 have lt4:∀ n∈p::(n1++(((hj.next+1)::(n2.tail++nsp))++n3)),1<=n/\n<h4.next:=fun n hn=>by
  rcases f0f.1 hn with rfl | hn
  .omega
  .rcases mem3 n hn with h3 | h3 | h3
   .have:=hlt n (f01 _ h3);omega
   .omega
   .have:=lo n h3;omega
 have mr6:=MR.mk_put (t:=tt) (w':=jag w cs) (a:=av) (b:=.slice (hj.next+1) 0 (w.blocks.length+1) (w.blocks.length+1) false 3) (k:=kv) ok4 (hv.keep k1) sb (hk.keep k3) nd4 lt4
 have mv6:Mv h (h4.put p (some (.arr [si w.m.1,si w.m.2,av,.slice (hj.next+1) 0 (w.blocks.length+1) (w.blocks.length+1) false 3,si w.cur,kv,si w.all] tt.mas))) ns (p::(n1++(((hj.next+1)::(n2.tail++nsp))++n3))):=by
  have hnx:=mvj.nx
  refine⟨jas ok4,by rw[Hp.next_put];omega,fun n hn=>?_,fun n h1 h3=>?_⟩
  .rcases f0f.1 hn with rfl | hn
   .exact mvj.new n se
   .rcases mem3 n hn with h3 | h3 | h3
    .exact mvj.new n (f01 _ h3)
    .exact .inr oa
    .exact .inr (lo n h3).1
  .have hno:n∉p::(n1++(n2++n3)):=fun h5=>by
    rcases mvj.new n h5 with h6 | h6
    .exact h3 h6
    .omega
   rw[jak ok4 hp.1,if_neg (fun e=>hno (by simp[e])),kp4 n oa (fun h5=>hno (by simp[h5]))]
   exact mvj.keep n h1 h3
 have ok6:=mv6.ok
 have g6:(h4.put p (some (.arr [si w.m.1,si w.m.2,av,.slice (hj.next+1) 0 (w.blocks.length+1) (w.blocks.length+1) false 3,si w.cur,kv,si w.all] tt.mas))).get p=some (.arr [si w.m.1,si w.m.2,av,.slice (hj.next+1) 0 (w.blocks.length+1) (w.blocks.length+1) false 3,si w.cur,kv,si w.all] tt.mas):=by
  rw[jak ok4 hp.1,if_pos rfl]
 refine WB.seq (WB.c ?_)
 unfold jwl
 have hs:(((w.blocks.length+1:Nat):Int) - 1)=(w.blocks.length:Int):=oa
 simp(disch:=go_num) only[go_sem,g6,jad,hs]
 refine WB.c ?_
 unfold jwm
 simp(disch:=go_num) only[go_sem]
 exact⟨_,mr6,mv6⟩
def quz (size:Nat) (x y:Option AV):Option AV:=ob x (fun v=>jdh v
 (ob (ob y (fun x=>jk5 x (fun _ n=>Int.casesOn n (fun m=>some m) (fun _=>none)))) (fun hi'=>oif (Nat.beq (Nat.add hi' 0) 0) (some (AV.s .nilSlice)) none))
 (fun b off len mc ex sz=>ob (ob y (fun x=>jk5 x (fun _ n=>Int.casesOn n (fun m=>some m) (fun _=>none)))) (fun hi' =>
  oif (Nat.ble hi' mc) (oif (Nat.ble 0 hi') (oif (Nat.beq sz size) (some (AV.s (.slice b (Nat.add off (Nat.mul 0 size)) (Nat.sub hi' 0) (Nat.sub mc 0) ex sz))) none) none) none))
 (fun rows=>ob (ob y (fun x=>jk5 x (fun _ n=>Int.casesOn n (fun m=>some m) (fun _=>none)))) (fun hi' =>
  oif (Nat.ble hi' (jb6 rows)) (oif (Nat.ble 0 hi') (oif (jq0 size rows) (ob (jbp (Nat.sub hi' 0) (jb9 0 rows)) (fun r=>some (AV.s (.lst r)))) none) none) none))
 (ob (ob y (fun x=>jk5 x (fun _ n=>Int.casesOn n (fun m=>some m) (fun _=>none)))) (fun hi'=>oif (Nat.beq (Nat.add hi' 0) 0) (some (AV.s .emp)) none)))
theorem jhx {x y:Od}:pop st fr (.slice size x none (some y))=quz size (ev st fr x) (ev st fr y):=rfl
theorem qm1 {b off len mc k:Nat} {ex:Bool} (hk:k<=mc):quz size (some (AV.s (.slice b off len mc ex size))) (some (vi (k:Int)))=some (AV.s (.slice b off k mc ex size)):=by
 show oif (Nat.ble k mc) (oif (Nat.ble 0 k) (oif (Nat.beq size size) (some (AV.s (SV.slice b (Nat.add off (Nat.mul 0 size)) (Nat.sub k 0) (Nat.sub mc 0) ex size))) none) none) none=_
 rw[show Nat.ble k mc=true from f2z hk,show Nat.ble 0 k=true from f2z (f15 _),f1w]
 show some (AV.s (SV.slice b (off+0*size) (k - 0) (mc - 0) ex size))=_
 simp
structure FS (h0 hi:Hp) (p:Nat) (w:Ms) (ns:List Nat) (L:List (Nat×AB)) (ns':List Nat):Prop where
 ok:Ok hi
 mr:MR tt hi p w ns'
 mv:Mv h0 hi ns ns'
 kp:∀ q∈L,hi.get q.1=some q.2/\h0.next<=q.1/\q.1<hi.next/\q.1∉ns'
section
variable {h0 hi:Hp} {p:Nat} {w:Ms} {ns ns':List Nat} {L:List (Nat×AB)}
theorem FS.pos (k:FS h0 hi p w ns L ns'):1<=hi.next:=by
 obtain⟨⟨a,b,c,n1,n2,n3,h1,h2,h3,h4,e⟩,h5,h6⟩:=k.mr
 have:=h6 p (by simp[e]);omega
theorem FS.sub {L':List (Nat×AB)} (k:FS h0 hi p w ns L ns') (h:∀ q∈L',q∈L):FS h0 hi p w ns L' ns':=⟨k.ok,k.mr,k.mv,fun q hq=>k.kp q (h q hq)⟩
theorem FS.step {h2:Hp} (k:FS h0 hi p w ns L ns') (m:MR tt h2 p w2 ns2) (v:Mv hi h2 ns' ns2):FS h0 h2 p w2 ns L ns2 :=
 ⟨v.ok,m,k.mv.trans v,fun q hq=>by
  obtain⟨h1,h3,h4,h5⟩:=k.kp q hq
  refine⟨(v.keep _ h4 h5).trans h1,h3,f0o h4 v.nx,fun h6=>?_⟩
  rcases v.new _ h6 with h7 | h7
  .exact h5 h7
  .omega⟩
theorem FS.step1 {h2:Hp} {b:Nat} {a:AB} (k:FS h0 hi p w ns ((b,a)::L) ns') (hb:∀ q∈L,q.1≠b) (m:MR tt h2 p w2 ns2) (v:Mv hi h2 (ns'++[b]) ns2):FS h0 h2 p w2 ns L ns2:=by
 have hb0:=k.kp (b,a) se
 have hmv:=k.mv
 refine⟨v.ok,m,⟨v.ok,f02 hmv.nx v.nx,fun n hn=>?_,fun n h1 h3=>?_⟩,fun q hq=>?_⟩
 .rcases v.new n hn with h1 | h1
  .rcases f0e.1 h1 with h3 | h3
   .exact hmv.new n h3
   .obtain rfl:=f0v.1 h3;exact .inr hb0.2.1
  .exact .inr (f02 hmv.nx h1)
 .rw [v.keep n (f0o h1 hmv.nx) (fun h5=>by
   rcases f0e.1 h5 with h6 | h6
   .rcases hmv.new n h6 with h7 | h7
    .exact h3 h7
    .omega
   .obtain rfl:=f0v.1 h6;have:=hb0.2.1;simp only at this;omega)]
  exact hmv.keep n h1 h3
 .obtain ⟨h1,h3,h4,h5⟩:=k.kp q (f01 _ hq)
  refine⟨(v.keep _ h4 (fun h6=>by
   rcases f0e.1 h6 with h7 | h7
   .exact h5 h7
   .exact hb q hq (f0v.1 h7))).trans h1,h3,f0o h4 v.nx,fun h6=>?_⟩
  rcases v.new _ h6 with h7 | h7
  .rcases f0e.1 h7 with h8 | h8
   .exact h5 h8
   .exact hb q hq (f0v.1 h8)
  .omega
theorem FS.push {a:AB} (k:FS h0 hi p w ns L ns'):FS h0 (hi.push a) p w ns ((hi.next,a)::L) ns':=by
 have g:∀ n,n<hi.next->(hi.push a).get n=hi.get n:=fun n hn=>by rw[ja3 k.ok,if_neg oa]
 have hmv:=k.mv
 have hnx:=hmv.nx
 refine⟨ja9 k.ok,k.mr.keep (fun n hn=>g n (k.mr.lt n hn).2) (by rw[Hp.next_push];omega),⟨ja9 k.ok,by rw[Hp.next_push];omega,hmv.new,fun n h1 h3=>(g n oa).trans (hmv.keep n h1 h3)⟩,fun q hq=>?_⟩
 rcases f0f.1 hq with rfl | hq
 .exact ⟨by rw[ja3 k.ok,if_pos rfl],hnx,by rw[Hp.next_push];omega,fun h1=>by have:=(k.mr.lt _ h1).2;omega⟩
 .obtain ⟨h1,h3,h4,h5⟩:=k.kp q hq
  exact⟨(g _ h4).trans h1,h3,by rw[Hp.next_push];omega,h5⟩
theorem FS.put {b:Nat} {a a':AB} (k:FS h0 hi p w ns ((b,a)::L) ns') (hb:∀ q∈L,q.1≠b) (hpos:1<=h0.next):FS h0 (hi.put b (some a')) p w ns ((b,a')::L) ns':=by
 obtain⟨h1,h3,h4,h5⟩:=k.kp (b,a) se
 have hb1:1<=b:=f02 hpos h3
 have g:∀ n,n≠b->(hi.put b (some a')).get n=hi.get n:=fun n hn=>by rw[jak k.ok hb1,if_neg hn]
 have hmv:=k.mv
 have hnx:=hmv.nx
 simp only at h3 h5
 refine⟨jas k.ok,k.mr.keep (fun n hn=>g n (fun e=>h5 (e▸hn))) (by rw[Hp.next_put];omega),⟨jas k.ok,by rw[Hp.next_put];omega,hmv.new,fun n h6 h7=>(g n oa).trans (hmv.keep n h6 h7)⟩,fun q hq=>?_⟩
 rcases f0f.1 hq with rfl | hq
 .exact ⟨by rw[jak k.ok hb1,if_pos rfl],h3,by rw[Hp.next_put];exact h4,h5⟩
 .obtain ⟨h6,h7,h8,h9⟩:=k.kp q (f01 _ hq)
  exact⟨(g _ (hb q hq)).trans h6,h7,by rw[Hp.next_put];exact h8,h9⟩
theorem FS.cells (k:FS h0 hi p w ns L ns'):∃ a b c,hi.get p=some (.arr [si w.m.1,si w.m.2,a,b,si w.cur,c,si w.all] tt.mas)/\jsn (.s c)=some (vi w.known.length)/\jsn (.s b)=some (vi w.blocks.length):=by
 obtain⟨⟨a,b,c,n1,n2,n3,h1,h2,h3,h4,e⟩,h5,h6⟩:=k.mr
 exact⟨a,b,c,h1,h4.len,h3.len⟩
theorem FS.setcur {a b c:SV} {j:Nat} (k:FS h0 hi p w ns L ns') (hg:hi.get p=some (.arr [si w.m.1,si w.m.2,a,b,si w.cur,c,si w.all] tt.mas)):FS h0 (hi.put p (some (.arr [si w.m.1,si w.m.2,a,b,si j,c,si w.all] tt.mas))) p { w with cur:=j } ns L ns':=by
 obtain⟨⟨a',b',c',n1,n2,n3,h1,h2,h3,h4,e⟩,h5,h6⟩:=id k.mr
 subst e
 rw[h1] at hg
 simp only[Option.some.injEq,AB.arr.injEq,List.cons.injEq] at hg
 obtain⟨⟨_,_,rfl,rfl,_,rfl,_⟩,_⟩:=hg
 have hp:=h6 p se
 refine k.step (MR.mk_put (w':={ w with cur:=j }) k.ok h2 h3 h4 h5 h6) ⟨jas k.ok,by rw[Hp.next_put];omega,fun n hn=>.inl hn,fun n h7 h8=>?_⟩
 rw[jak k.ok hp.1,if_neg (fun e=>h8 (by simp[e]))]
end
section
variable {h0 hi:Hp} {p:Nat} {w:Ms} {ns ns':List Nat} {L:List (Nat×AB)} {N:Nat}
theorem jiz (k:FS h0 hi p w ns L ns') (wk:Wok w N) (hN:N<=79000) {pc:Pc} (pin:Pin pc):WC F2 30 [.s (.ptr p 0),.agg (jb8 pc)] hi (fun v h'=>v=.tup []/\∃ ns'',FS h0 h' p (jcp w pc) ns L ns'') :=
 WC.imp (qhx jhw k.ok k.mr wk oa pc pin) (fun v h' ⟨e,ns2,m,mv⟩=>⟨e,ns2,k.step m mv⟩)
theorem jgn (k:FS h0 hi p w ns L ns') (wk:Wok w N) (hN:N<=79000) {cls:Nat} (hc:cls<2) {pc:Pc} (pin:Pin pc):WC F2 50 [.s (.ptr p 0),vi cls,.agg (jb8 pc)] hi (fun v h'=>v=vi (jac w cls pc).1/\∃ ns'',FS h0 h' p (jac w cls pc).2 ns L ns'') :=
 WC.imp (j9b jhw k.ok k.mr wk hN cls hc pc pin) (fun v h' ⟨e,ns2,m,mv⟩=>⟨e,ns2,k.step m mv⟩)
theorem jkd (k:FS h0 hi p w ns L ns') (wk:Wok w N) (hN:N<=79000):WC F2 27 [.s (.ptr p 0),.s .nilSlice] hi (fun v h'=>v=vi w.blocks.length/\∃ ns'',FS h0 h' p (jag w []) ns L ns'') :=
 WC.imp (js1 k.ok k.mr wk.nv wk.nb hN (cs:=[]) (nsx:=[]) Sl.nil se se se) (fun v h' ⟨e,ns2,m,mv⟩=>⟨e,ns2,k.step m mv⟩)
theorem j9d {hi:Hp} {b c d ty:Nat} (h:hi.get b=some (.arr [si c,si d] ty)):Sl hi ty 1 true EI (.slice b 0 2 2 true 1) [c,d] [b] :=
 .inr ⟨se,b,[[si c],[si d]],[],rfl,h,by
  have:=Rows.cons (sz:=1) (E:=EI) (row:=[si c]) (a:=c) (ns:=[]) rfl ⟨rfl,rfl⟩ (Rows.cons (sz:=1) (E:=EI) (row:=[si d]) (a:=d) (ns:=[]) rfl ⟨rfl,rfl⟩ .nil)
  exact this,rfl⟩
theorem jwn {b c:Nat} (k:FS h0 hi p w ns ((b,.arr [si c,si (0:Nat)] 3)::L) ns') (wk:Wok w N) (hN:N<=79000) (hc:c<2):WC F2 27 [.s (.ptr p 0),.s (.slice b 0 2 2 true 1)] hi (fun v h'=>v=vi w.blocks.length/\∃ ns'',FS h0 h' p (jag w [c,0]) ns L ns''):=by
 obtain⟨h1,h2,h3,h4⟩:=k.kp _ (f1a ..)
 refine WC.imp (js1 k.ok k.mr wk.nv wk.nb hN (cs:=[c,0]) (nsx:=[b]) (j9d h1) se (fun x hx=>?_) (fun n hn=>?_)) (fun v h' ⟨e,ns2,m,mv⟩=>⟨e,ns2,(k.step m mv).sub (fun q hq=>f01 _ hq)⟩)
 .simp at hx;omega
 .obtain rfl:=f0v.1 hn;exact⟨h3,h4⟩
theorem jm9 (k:FS h0 hi p w ns L ns') (wk:Wok w N) (hN:N<=79000) {a to:Nat} (ha:a<w.blocks.length):WC F2 49 [.s (.ptr p 0),vi a,vi to,.s .nilSlice] hi (fun v h'=>v=.tup []/\∃ ns'',FS h0 h' p (jay w a to []) ns L ns'') :=
 WC.imp (j9a jhw k.ok k.mr wk oa (args:=[]) (n1:=[]) ha Sl.nil .nil se) (fun v h' ⟨e,ns2,m,mv⟩=>⟨e,ns2,k.step m (by simpa using mv)⟩)
theorem js2 {b x y:Nat} (k:FS h0 hi p w ns ((b,.arr [si x,si y] 3)::L) ns') (hb:∀ q∈L,q.1≠b) (hpos:1<=h0.next) (wk:Wok w N) (hN:N<=79000) {a to:Nat} (ha:a<w.blocks.length):WC F2 49 [.s (.ptr p 0),vi a,vi to,.s (.slice b 0 2 2 true 1)] hi (fun v h'=>v=.tup []/\∃ ns'',FS h0 h' p (jay w a to [x,y]) ns L ns''):=by
 obtain⟨h1,h2,h3,h4⟩:=k.kp _ (f1a ..)
 refine WC.imp (j9a jhw k.ok k.mr wk oa (args:=[x,y]) (n1:=[b]) ha (j9d h1) se (fun n hn=>?_)) (fun v h' ⟨e,ns2,m,mv⟩=>⟨e,ns2,k.step1 hb m mv⟩)
 obtain rfl:=f0v.1 hn
 simp only at h2 h3
 exact⟨oa,h3,h4⟩
theorem FS.setknown {a b y:SV} {n1 n3 n3':List Nat} {kn:List Nat} (k:FS h0 hi p w ns L (p::(n1++(n2++n3)))) (hv:Sl hi tt.int 1 false EI a w.values n1) (hb:Sl hi tt.blk 3 false (EB tt hi) b w.blocks n2) {h2:Hp} (ok2:Ok h2) (nx:hi.next<=h2.next)
 (kp:∀ n,n<hi.next->n∉n3->h2.get n=hi.get n) (hk:Sl h2 tt.int 1 false EI y kn n3') (nd:n3'.Nodup) (hn:∀ n∈n3',(n∈n3∨hi.next<=n)/\n<h2.next) :
 FS h0 (h2.put p (some (.arr [si w.m.1,si w.m.2,a,b,si w.cur,y,si w.all] tt.mas))) p { w with known:=kn } ns L (p::(n1++(n2++n3'))):=by
 have hd:=k.mr.nodup
 have lt:=k.mr.lt
 have hdt:=(f0r.1 hd).2
 have hd1:=f0m.1 hdt
 have hd2:=f0m.1 hd1.2.1
 have q1:∀ n∈n1,h2.get n=hi.get n:=fun n hm=>kp n (lt n (by simp[hm])).2 (fun h3=>hd1.2.2 n hm n (by simp[h3]) rfl)
 have q2:∀ n∈n2,h2.get n=hi.get n:=fun n hm=>kp n (lt n (by simp[hm])).2 (fun h3=>hd2.2.2 n hm n h3 rfl)
 have nd':(n1++(n2++n3')).Nodup:=by
  have:=jgz (A:=n1++n2) (ns:=n3) (B:=[]) (ns':=n3') (by simpa using hdt) nd (fun n hm=>by
   rcases(hn n hm).1 with h3 | h3
   .exact .inl h3
   .exact .inr (fun h4=>by have:=(lt n (by simp at h4 ⊢;exact .inr h4)).2;omega))
  simpa using this
 have u:=MR.upd (t:=tt) (w':={ w with known:=kn }) hd lt k.pos ok2 nx (hv.keep q1) (hb.imp q2 (fun row a ms hm k=>k.keep (fun n hn=>q2 n (hm n hn)))) hk nd' (fun n hm=>by
  rcases f0e.1 hm with h3 | h3
  .exact ⟨.inl (by simp[h3]),by have:=(lt n (by simp[h3])).2;omega⟩
  .rcases f0e.1 h3 with h4 | h4
   .exact ⟨.inl (by simp[h4]),by have:=(lt n (by simp[h4])).2;omega⟩
   .exact ⟨(hn n h4).1.imp (fun h5=>by simp[h5]) id,(hn n h4).2⟩) (fun n h3 h4=>kp n h3 (fun h5=>h4 (by simp[h5])))
 exact k.step u.1 u.2
theorem j07 {rows:List (List SV)} {l ns:List Nat} (k:Rows 1 EI rows l ns):rows=l.map (fun(n:Nat)=>[si (n:Int)])/\ns=[]:=by
 induction k with
 | nil=>exact⟨rfl,rfl⟩
 | cons h1 h2 _ ih =>
  obtain⟨rfl,rfl⟩:=h2
  obtain⟨rfl,rfl⟩:=ih
  exact⟨rfl,rfl⟩
theorem qm2:∀ (l:List Nat),Rows 1 EI (l.map (fun(n:Nat)=>[si (n:Int)])) l []
 | []=>.nil
 | a::l=>by
  have:=Rows.cons (sz:=1) (E:=EI) (row:=[si a]) (a:=a) (ns:=[]) rfl ⟨rfl,rfl⟩ (qm2 l)
  exact this
theorem qfy (l:List Nat):(l.map (fun(n:Nat)=>[si (n:Int)])).flatten=l.map (fun(n:Nat)=>si (n:Int)):=by
 induction l with
 | nil=>rfl
 | cons a l ih=>simp[ih]
theorem FS.take (k:FS h0 hi p w ns L ns') {j:Nat} (hj:1<=j) (hj2:j<=w.known.length) (hN:w.known.length<=100000):∃ a b c x y h2 ns2,hi.get p=some (.arr [si w.m.1,si w.m.2,a,b,si w.cur,c,si w.all] tt.mas)/\quz 1 (some (.s c)) (some (vi (j:Int)))=some (.s x)/\jmr hi 3 1 8 (.s .nilSlice) (.s x)=some (.s y,h2)/\Ok h2/\h2.get p=hi.get p /\
 FS h0 (h2.put p (some (.arr [si w.m.1,si w.m.2,a,b,si w.cur,y,si w.all] tt.mas))) p { w with known:=w.known.take j } ns L ns2:=by
 obtain⟨⟨a,b,c,n1,n2,n3,h1,h2,h3,h4,e⟩,h5,h6⟩:=id k.mr
 subst e
 rcases h4 with⟨e,_,_⟩ | ⟨hne,bk,rows,nss,rfl,hg,hR,rfl⟩
 .rw [e] at hj2;simp at hj2;omega
 .obtain ⟨rfl,rfl⟩:=j07 hR
  have hl:(w.known.take j).length=j:=by rw[f1r];omega
  have hrd:rdB (hi.get bk) 0 ((w.known.take j).length*1)=some ((w.known.take j).map (fun(n:Nat)=>[si (n:Int)])).flatten:=by
   rw[hg,jhs]
   refine(ja8 _).2 ⟨?_,?_⟩
   .rw [hl,qfy];simp[jcb];omega
   .rw [hl,qfy,qfy,jcb,f12,f1f,List.map_take]
  have hpos:=k.pos
  obtain⟨h7,e7,ok7,n7,kp7,sl7⟩:=(Sl.nil (h:=hi) (ty:=3) (sz:=1) (ex:=false) (E:=EI)).app (bytes:=8) (b':=bk) (o':=0) (mc':=w.known.length) (ex':=false) (l':=w.known.take j) (ms:=[]) k.ok se hrd (qm2 _) (by intro e;rw[e] at hl;simp at hl;omega) (by simp;omega) (by simp;omega)
  rw[hl] at e7 sl7
  have hp:=h6 p se
  have kp8:∀ n,n<hi.next->h7.get n=hi.get n:=fun n hn=>kp7 n oa se
  refine⟨a,b,_,_,_,h7,_,h1,qm1 hj2,e7,ok7,kp8 p hp.2,k.setknown h2 h3 ok7 oa (fun n hn _=>kp8 n hn) (sl7 (E':=EI) (fun _ _ _ _ h=>h)) se (fun n hn=>?_)⟩
  simp at hn;subst hn
  exact⟨.inr (f0h _),oa⟩
theorem FS.params (k:FS h0 hi p w ns L ns') {j:Nat} {blk:Blk} (hj:w.blocks[j]?=some blk) (hne:blk.params≠[]) (hN:w.known.length+blk.params.length<=100000):∃ a b c bb pp y h2 ns2,hi.get p=some (.arr [si w.m.1,si w.m.2,a,b,si w.cur,c,si w.all] tt.mas)/\jqo 3 (.s b) (vi (j:Int))=some (.s (.ptr bb (j*3)))/\rdB (hi.get bb) (j*3) 1=some [pp] /\
 jmr hi 3 1 8 (.s c) (.s pp)=some (.s y,h2)/\Ok h2/\h2.get p=hi.get p /\
 FS h0 (h2.put p (some (.arr [si w.m.1,si w.m.2,a,b,si w.cur,y,si w.all] tt.mas))) p { w with known:=w.known++blk.params } ns L ns2:=by
 obtain⟨⟨a,b,c,n1,n2,n3,h1,h2,h3,h4,e⟩,h5,h6⟩:=id k.mr
 subst e
 obtain⟨bb,row,ms,ix,hrd,hrl,⟨pp,ia,ee,na,nb,nc,rfl,sp,sI,sE,rfl⟩,hms,hbb⟩:=h3.at hj
 have rd1:=jd1 (j:=0) (c:=pp) hrd rfl
 rcases sp with⟨e,_,_⟩ | ⟨_,bp,rows,nss,rfl,hg,hR,rfl⟩
 .exact absurd e hne
 .obtain ⟨rfl,rfl⟩:=j07 hR
  have hl2:(blk.params.map (fun(n:Nat)=>[si (n:Int)])).flatten.length=blk.params.length:=by rw[qfy,f03]
  have hrd2:rdB (hi.get bp) 0 (blk.params.length*1)=some (blk.params.map (fun(n:Nat)=>[si (n:Int)])).flatten:=by
   rw[hg,jhs]
   refine(ja8 _).2 ⟨?_,?_⟩
   .simp only[jcb,f1f,hl2];omega
   .simp only[jcb,f1f]
    rw[List.take_of_length_le (by rw[hl2];omega)]
  obtain⟨h7,e7,ok7,n7,kp7,sl7⟩:=h4.app (bytes:=8) (mc':=blk.params.length) (ex':=false) (l':=blk.params) (ms:=[]) k.ok (fun n hn=>h6 n (by simp[hn])) hrd2 (qm2 _) hne oa oa
  have hp:=h6 p se
  have hd:=h5
  have hdt:=(f0r.1 hd).2
  have hd1:=f0m.1 hdt
  have hd2:=f0m.1 hd1.2.1
  have kp8:∀ n,n<hi.next->n∉n3->h7.get n=hi.get n:=fun n hn h8=>kp7 n oa (fun b hb e=>h8 (e▸List.mem_of_mem_head? hb))
  have hp3:p∉n3:=fun h8=>(f0r.1 hd).1 (by simp[h8])
  have hf:hi.next∉n3:=fun h8=>by have:=(h6 hi.next (by simp[h8])).2;omega
  refine⟨a,b,c,bb,_,_,h7,_,h1,ix,rd1,e7,ok7,kp8 p hp.2 hp3,k.setknown h2 h3 ok7 oa kp8 (sl7 (E':=EI) (fun _ _ _ _ h=>h)) (jcr hd2.2.1 .nil se hf se) (fun n hn=>?_)⟩
  rcases f0f.1 hn with rfl | hn
  .exact ⟨.inr (f0h _),oa⟩
  .have h8:=f0j (by simpa using hn)
   exact⟨.inl h8,by have:=(h6 n (by simp[h8])).2;omega⟩
end
def j9e:IC:=qr [qM 0,qM 16,qA (.load 7 true (.g 17)),qA (.call 50 [qc,qb,qa]),qT 4] (qr [qM 0,qA (.load 7 true (.g 17)),qA (.call 50 [qb,qC 0,qa]),qT 3] (qr [qM 0,qM 8,qM 5,qM 4,qM 3,qA (.bslice 3 1 Zf 2 [(0,(1,qb)),(1,(1,qa))]),qA (.call 49 [.l 5,.l 4,qd,qa])] (.region [qM 0,qM 0,qN,qG 5,qL,qM 2,qP (.slice 1 qb .none (.some qa)),qA (.app 3 1 8 (.c (.s .nilSlice)) qa),qP (.nchk (.l 7)),qG 5,qA (.store 1 qa qc)])))
def qhy:IC:=.seq (.block 1 (qr [qM 12,qP (.ixs 1 (.g 9) (.g 12)),qL,qQ 7 (.mv qc),qQ 8 (.mv qb)] (qr [qM 0,qM 8,qP (.nchk qb),qG 4,qA (.store 1 qa qc)] (qr [qF 2 17,qL,qP (.bin .add qa (qC 1)),qF 2 17,qA (.store 1 qa qb)] (.seq (qr [qM 7,qP (.bin .eq qa (qC 0)),qP (.mv qa),qR 0 false (.fld 6 (.g 17)),qS 1 false (.load 1 false qa),qS 2 false (.call 8 [qa,qC 2]),qR 3 false (.bin .eq qa (qC 1)),qQ 6 (.pick (.l 4) (.c (.s (.bool true))) qa)] (.cond (.g 6) (qr [qF 1 17,qL,qP (.bin .add qa (qC 1)),qF 1 17,qA (.store 1 qa qb)] (.region [qM 0,qA (.load 7 true (.g 17)),qA (.call 30 [qb,qa])])) .skip)) j9e))))) (.region [qI 12,qT 12])
def jwo:IC:=qr [qQ 10 (.bin .lt (.g 12) (.g 11))] (.seq (qX 10 0) qhy)
def qsq:IC:=qr [qB 17 (.box 90 (.g 1))] (qr [qF 4 17,qL,qA (.call 8 [qa,qC 2]),qT 16] (qr [qM 0,qA (.load 7 true (.g 17)),qA (.call 30 [qb,qa])] (qr [qM 0,qN,qG 4,qL,qT 15] (qr [qM 0,qN,qG 5,qL,qP (.len qa),qT 2] (qr [qM 0,qA (.call 27 [qa,.c (.s .nilSlice)]),qT 14] (qr [qM 0,qA (.call 27 [qa,.c (.s .nilSlice)]),qT 13] (qr [qM 0,qM 16,qA (.bslice 3 1 Zf 2 [(0,(1,qa)),(1,(1,qC 0))]),qA (.call 27 [qc,qa]),qT 5] (qr [qM 0,qM 15,qM 14,qA (.call 49 [qc,qb,qa,.c (.s .nilSlice)])] (qr [qM 0,qM 15,qM 13,qA (.call 49 [qc,qb,qa,.c (.s .nilSlice)])] (.seq (qr [qM 14,qM 13,qB 9 (.bslice 3 1 Zf 2 [(0,(1,qb)),(1,(1,qa))]),qQ 11 (.len qa),qQ 12 (.mv (qC 0))] (.block 0 (.loop jwo))) (qr [qM 0,qM 5,qP (.nchk qb),qG 4,qA (.store 1 qa qc)] (.draw [(qM 0,.none),(qM 0,.none),(qN,.none),(qG 5,.none),(qL,.some []),(qM 0,.none),(qN,.none),(qG 2,.none),(qG 1,.none),(qL,.some [4]),(qM 5,.none),(qP (.ixs 3 qb qa),.none),(qG 0,.none),(qL,.some [8]),(qA (.app 3 1 8 (.l 9) qa),.none),(qP (.nchk (.l 14)),.none),(qG 5,.none),(qA (.store 1 qa qc),.none)]))))))))))))
theorem q4u:T 28=some (.mk qsq 2 16 []):=ka
theorem FS.refl {h:Hp} {p:Nat} {w:Ms} {ns:List Nat} (ok:Ok h) (mr:MR tt h p w ns):FS h h p w ns [] ns:=⟨ok,mr,Mv.refl ok,se⟩
theorem no2 {f:FuncId} (h1:S1 f=false) (h2:Nat.beq f jgm.f=false) {vs:List AV} {h:Hp}:jc1 F2 f vs h=none:=(jg7 h2).trans ((ja0 h1).trans qzu)
theorem jee (w:Ms) (p:Pc):w.known.length<=(jcp w p).known.length/\(jcp w p).blocks.length=w.blocks.length:=by
 obtain⟨cs,h1,h2,h3⟩:=jkc w p
 refine⟨?_,?_⟩
 .show _<=((ja4 w p).2.known++_).length
  rw[h3];simp
 .show (jax (ja4 w p).2.blocks _ _).length=_
  unfold jax;rw[f1d,h3]
theorem jc8 (w:Ms) (c:Nat) (p:Pc):w.known.length<=(jac w c p).2.known.length/\(jac w c p).2.blocks.length=w.blocks.length:=by
 unfold jac
 split
 .exact ⟨f0h _,rfl⟩
 .exact jee _ _
theorem jb4 (w:Ms) (k to:Nat) (l:List Nat):(jay w k to l).known=w.known/\(jay w k to l).blocks.length=w.blocks.length:=by
 unfold jay
 exact⟨rfl,se⟩
theorem Wok.setcur {w:Ms} {N j:Nat} (wk:Wok w N) (h:j<w.blocks.length):Wok { w with cur:=j } N:=⟨wk.m1,wk.m2,wk.vals,wk.known,h,wk.nv,wk.nb,wk.nk,wk.ni,wk.na⟩
theorem Wok.take {w:Ms} {N j:Nat} (wk:Wok w N):Wok { w with known:=w.known.take j } N:=⟨wk.m1,wk.m2,wk.vals,fun v hv=>wk.known v (List.mem_of_mem_take hv),wk.cur,wk.nv,wk.nb,by have:=wk.nk;simp;omega,wk.ni,wk.na⟩
theorem js3 {a:Int} (h1:-9223372036854775808<=a) (h2:a<=9223372036854775807):w64 (a+1)=inc a:=by
 unfold inc
 split
 .rename_i h;subst h;rfl
 .exact jad oa oa
theorem qhz {a:Int} (h1:-9223372036854775808<=a) (h2:a<=9223372036854775807):-9223372036854775808<=inc a/\inc a<=9223372036854775807:=by
 unfold inc
 split<;>omega
theorem Wok.new {w:Ms} {N:Nat} (wk:Wok w N) (cls:Nat) (p:Pc):Wok (jac w cls p).2 (N+10):=Wok.newest jhw wk cls p
def jzb (w:Ms) (cls before e k:Nat) (q:Pc):Ms :=
 let v:=jac w cls q
 let z:=jac v.2 0 q
 let w:=jay z.2 k e [v.1,z.1]
 { w with known:=w.known.take before }
theorem Wok.tail {w:Ms} {N:Nat} (wk:Wok w N) (cls before e k:Nat) (q:Pc):Wok (jzb w cls before e k q) (N+21) :=
 ((((wk.new cls q).new 0 q).edge k e _).take)
theorem jzc {h0 hi:Hp} {p bx:Nat} {w:Ms} {ns ns':List Nat} {L:List (Nat×AB)} {q:Pc} (K:FS h0 hi p w ns ((bx,.arr (jb8 q) 90)::L) ns') (hL:∀ r∈L,r.1≠bx) (hpos:1<=h0.next) {N:Nat} (wk:Wok w N) (hN:N<=70000) (pin:Pin q) {cls before e k:Nat} (hc:cls<2) (hk:k<w.blocks.length) (hb1:1<=before) (hb2:before<=w.known.length)
 {x1 x3 x4 x6 x7 x9 x10 x11 x12 x13 x14 x15:AV} {Q:Ex->St->Prop} (hQ:∀ hj ns'' x3 x4,FS h0 hj p (jzb w cls before e k q) ns ((bx,.arr (jb8 q) 90)::L) ns''->Q .normal (.mk [.s (.ptr p 0),x1,vi before,x3,x4,vi e,x6,x7,vi k,x9,x10,x11,x12,x13,x14,x15,vi cls,.s (.ptr bx 0)] hj)) :
 W F2 j9e (.mk [.s (.ptr p 0),x1,vi before,x3,x4,vi e,x6,x7,vi k,x9,x10,x11,x12,x13,x14,x15,vi cls,.s (.ptr bx 0)] hi) Q:=by
 unfold j9e
 have g1:=jc8 w cls q
 have ok1:=K.ok
 have hx1:hi.get bx=some (.arr (jb8 q) 90):=(K.kp _ (f1a ..)).1
 unfold jb8 at hx1
 simp(disch:=go_num) only[go_sem,hx1]
 refine WC.imp (jgn K wk oa hc (pc:=q) pin) ?_
 rintro _ h2 ⟨rfl,ns2,K2⟩
 have wk2:=wk.new cls q
 have g2:=jc8 (jac w cls q).2 0 q
 have ok2:=K2.ok
 have hx2:h2.get bx=some (.arr (jb8 q) 90):=(K2.kp _ (f1a ..)).1
 unfold jb8 at hx2
 simp(disch:=go_num) only[go_sem,hx2]
 refine WC.imp (jgn K2 wk2 oa (cls:=0) oa (pc:=q) pin) ?_
 rintro _ h3 ⟨rfl,ns3,K3⟩
 have wk3:=wk2.new 0 q
 have ok3:=K3.ok
 simp(disch:=go_num) only[go_sem]
 have K4:=K3.push (a:=.arr [si ((jac w cls q).1:Nat),si ((jac (jac w cls q).2 0 q).1:Nat)] 3)
 refine WC.imp (js2 K4 (fun r hr=>by have:=(K3.kp r hr).2.2.1;omega) hpos wk3 oa (a:=k) (to:=e) oa) ?_
 rintro _ h5 ⟨rfl,ns5,K5⟩
 have wk5:=wk3.edge k e [(jac w cls q).1,(jac (jac w cls q).2 0 q).1]
 have ok5:=K5.ok
 have g5:=jb4 (jac (jac w cls q).2 0 q).2 k e [(jac w cls q).1,(jac (jac w cls q).2 0 q).1]
 obtain⟨a,b,c,x,y,h6,ns6,hg,e1,e2,ok6,hp6,K6⟩:=K5.take hb1 (by rw[g5.1];omega) (by have:=wk5.nk;omega)
 have hg6:=hp6.trans hg
 simp(disch:=go_num) only[go_sem,hg,e1,e2,hg6,jhx]
 exact hQ _ _ _ _ K6
theorem Pin.incA {q:Pc} (pin:Pin q):Pin { q with a:=inc q.a }:=⟨pin.kind,pin.op,qhz pin.a.1 pin.a.2,pin.b,pin.c,pin.limits,pin.flags⟩
theorem Pin.incO {q:Pc} (pin:Pin q):Pin { q with op:=inc q.op }:=⟨pin.kind,qhz pin.op.1 pin.op.2,pin.a,pin.b,pin.c,pin.limits,pin.flags⟩
theorem j9f {h0 hi:Hp} {p bx b9 k0 k1:Nat} {w:Ms} {ns ns':List Nat} {q:Pc} (K:FS h0 hi p w ns [(bx,.arr (jb8 q) 90),(b9,.arr [si (k0:Nat),si (k1:Nat)] 3)] ns') (hb:b9≠bx) (hpos:1<=h0.next) {N:Nat} (wk:Wok w N) (hN:N<=60000) (pin:Pin q) {cls before e k i:Nat} (hi2:i<2) (hget:[k0,k1][i]?=some k) (hc:cls<2) (hk:k<w.blocks.length) (hb1:1<=before) (hb2:before<=w.known.length)
 {x1 x3 x4 x6 x7 x8 x10 x13 x14 x15:AV} {Q:Ex->St->Prop} (hQ:∀ hj ns'' x3 x4 x6 x7 x8 x10,FS h0 hj p (jif q cls before e k (decide (i=0∨pk q.flags 2=1)) w).2 ns [(bx,.arr (jb8 (jif q cls before e k (decide (i=0∨pk q.flags 2=1)) w).1) 90),(b9,.arr [si (k0:Nat),si (k1:Nat)] 3)] ns''->W F2 jwo.loop (.mk [.s (.ptr p 0),x1,vi before,x3,x4,vi e,x6,x7,x8,.s (.slice b9 0 2 2 true 1),x10,vi 2,vi (i+1:Nat),x13,x14,x15,vi cls,.s (.ptr bx 0)] hj) Q) :
 W F2 jwo.loop (.mk [.s (.ptr p 0),x1,vi before,x3,x4,vi e,x6,x7,x8,.s (.slice b9 0 2 2 true 1),x10,vi 2,vi i,x13,x14,x15,vi cls,.s (.ptr bx 0)] hi) Q:=by
 rw[jai]
 unfold jwo
 have hlt:(i:Int)<2:=oa
 have kx:=K.kp _ (f1a ..)
 have k9:=K.kp (b9,.arr [si (k0:Nat),si (k1:Nat)] 3) se
 obtain⟨ob1,orow,oms,oe1,oe2,oe3,⟨rfl,rfl⟩,oe5,oe6⟩:=(j9d k9.1).at hget
 obtain rfl:=f0v.1 oe6
 obtain⟨a,b,c,hg,kl,bl⟩:=K.cells
 have ok:=K.ok
 have hp:=K.mr.lt p (by obtain⟨⟨_,_,_,_,_,_,_,_,_,_,e⟩,_,_⟩:=K.mr;simp[e])
 have hpm:p∈ns':=by obtain⟨⟨_,_,_,_,_,_,_,_,_,_,e⟩,_,_⟩:=K.mr;simp[e]
 have hbp:bx≠p:=fun e=>kx.2.2.2 (e▸hpm)
 have K1:=K.setcur (j:=k) hg
 have wk1:=wk.setcur hk
 obtain⟨hA,eA⟩:∃ hA,hA=hi.put p (some (.arr [si w.m.1,si w.m.2,a,b,si k,c,si w.all] tt.mas)):=⟨_,rfl⟩
 rw[←eA] at K1
 have K2:=K1.put (a':=.arr (jb8 { q with a:=inc q.a }) 90) (fun r hr=>by obtain rfl:=f0v.1 hr;exact hb) hpos
 obtain⟨hB,eB⟩:∃ hB,hB=hA.put bx (some (.arr (jb8 { q with a:=inc q.a }) 90)):=⟨_,rfl⟩
 rw[←eB] at K2
 have K3:=K2.put (a':=.arr (jb8 { q with a:=inc q.a,op:=inc q.op }) 90) (fun r hr=>by obtain rfl:=f0v.1 hr;exact hb) hpos
 obtain⟨hC,eC⟩:∃ hC,hC=hB.put bx (some (.arr (jb8 { q with a:=inc q.a,op:=inc q.op }) 90)):=⟨_,rfl⟩
 rw[←eC] at K3
 have okA:=K1.ok
 have okB:=K2.ok
 have okC:=K3.ok
 have xA:=(K1.kp _ (f1a ..)).1
 have xB:=(K2.kp _ (f1a ..)).1
 have xC:=(K3.kp _ (f1a ..)).1
 have hx:=kx.1
 unfold jb8 at xA xB xC hx
 have eA':hi.put p (some (.arr [si w.m.1,si w.m.2,a,b,si k,c,si w.all] tt.mas))=hA:=eA.symm
 have eB':hA.put bx (some (.arr [si q.kind,si q.op,si (inc q.a),si q.b,si q.c,si q.limits,si q.flags] 90))=hB:=eB.symm
 have eC':hB.put bx (some (.arr [si q.kind,si (inc q.op),si (inc q.a),si q.b,si q.c,si q.limits,si q.flags] 90))=hC:=eC.symm
 have ha:=js3 pin.a.1 pin.a.2
 have ho:=js3 pin.op.1 pin.op.2
 obtain⟨⟨q1,q2⟩,⟨q3,q4⟩,⟨q5,q6⟩,⟨q7,q8⟩,⟨q9,q10⟩,⟨q11,q12⟩,⟨q13,q14⟩⟩:=id pin
 have hsucc:((i:Int)+1)=((i+1:Nat):Int):=oa
 simp(disch:=go_num) only[go_sem,eq_true hlt]
 unfold qhy
 by_cases hi0:i=0
 .have hi0':(i:Int)=0:=oa
  have hdec:decide (i=0∨pk q.flags 2=1)=true:=by simp[hi0]
  rw[hdec] at hQ
  simp(disch:=go_num) only[go_sem,oe1,oe2,hg,eA',xA,ha,eB',xB,ho,eC',xC,eq_true hi0']
  refine WC.imp (jiz K3 wk1 oa (pc:={ q with a:=inc q.a,op:=inc q.op }) pin.incA.incO) ?_
  rintro _ h2 ⟨rfl,ns2,K4⟩
  have g4:=jee { w with cur:=k } { q with a:=inc q.a,op:=inc q.op }
  have wk4:=wk1.lay { q with a:=inc q.a,op:=inc q.op }
  simp(disch:=go_num) only[go_sem]
  refine jzc K4 (fun r hr=>by obtain rfl:=f0v.1 hr;exact hb) hpos wk4 oa pin.incA.incO hc (by rw[g4.2];exact hk) hb1 (f02 hb2 g4.1) (fun hj ns'' y3 y4 K5=>?_)
  simp(disch:=go_num) only[go_sem,jad,hsucc]
  exact hQ hj ns'' _ _ _ _ _ _ K5
 .have hi0':¬ (i:Int)=0:=oa
  by_cases hf:pk q.flags 2=1
  .have hf':((pk q.flags 2:Nat):Int)=1:=oa
   have hdec:decide (i=0∨pk q.flags 2=1)=true:=by simp[hf]
   rw[hdec] at hQ
   simp(disch:=go_num) only[go_sem,jfo,jfp,jfq,jfr,jfs,jbx,jao,jal,jbe jhw,oe1,oe2,hg,eA',xA,ha,eB',xB,ho,eC',xC,eq_false hi0',eq_true hf']
   refine WC.imp (jiz K3 wk1 oa (pc:={ q with a:=inc q.a,op:=inc q.op }) pin.incA.incO) ?_
   rintro _ h2 ⟨rfl,ns2,K4⟩
   have g4:=jee { w with cur:=k } { q with a:=inc q.a,op:=inc q.op }
   have wk4:=wk1.lay { q with a:=inc q.a,op:=inc q.op }
   simp(disch:=go_num) only[go_sem]
   refine jzc K4 (fun r hr=>by obtain rfl:=f0v.1 hr;exact hb) hpos wk4 oa pin.incA.incO hc (by rw[g4.2];exact hk) hb1 (f02 hb2 g4.1) (fun hj ns'' y3 y4 K5=>?_)
   simp(disch:=go_num) only[go_sem,jad,hsucc]
   exact hQ hj ns'' _ _ _ _ _ _ K5
  .have hf':¬ ((pk q.flags 2:Nat):Int)=1:=oa
   have hdec:decide (i=0∨pk q.flags 2=1)=false:=by simp[hf,hi0]
   rw[hdec] at hQ
   simp(disch:=go_num) only[go_sem,jfo,jfp,jfq,jfr,jfs,jbx,jao,jal,jbe jhw,oe1,oe2,hg,eA',xA,ha,eB',xB,eq_false hi0',eq_false hf']
   refine jzc K2 (fun r hr=>by obtain rfl:=f0v.1 hr;exact hb) hpos wk1 oa pin.incA hc hk hb1 hb2 (fun hj ns'' y3 y4 K5=>?_)
   simp(disch:=go_num) only[go_sem,jad,hsucc]
   exact hQ hj ns'' _ _ _ _ _ _ K5
theorem qzw (q:Pc) (cls before e k:Nat) (lay:Bool) (w:Ms):(jif q cls before e k lay w).1=if lay then { q with a:=inc q.a,op:=inc q.op } else { q with a:=inc q.a }:=by cases lay<;>rfl
theorem qfz (q:Pc) (cls before e k:Nat) (lay:Bool) (w:Ms):(jif q cls before e k lay w).2=jzb (if lay then jcp { w with cur:=k } { q with a:=inc q.a,op:=inc q.op } else { w with cur:=k }) cls before e k (if lay then { q with a:=inc q.a,op:=inc q.op } else { q with a:=inc q.a }):=by cases lay<;>rfl
theorem qm3 {q:Pc} (pin:Pin q) (cls before e k:Nat) (lay:Bool) (w:Ms):Pin (jif q cls before e k lay w).1:=by
 rw[qzw];split
 .exact pin.incA.incO
 .exact pin.incA
theorem j08 {w:Ms} {cls before e k:Nat} {q:Pc} (h:before<=w.known.length):(jzb w cls before e k q).known.length=before/\(jzb w cls before e k q).blocks.length=w.blocks.length:=by
 have g1:=jc8 w cls q
 have g2:=jc8 (jac w cls q).2 0 q
 have g5:=jb4 (jac (jac w cls q).2 0 q).2 k e [(jac w cls q).1,(jac (jac w cls q).2 0 q).1]
 refine⟨?_,?_⟩
 .show ((jay _ _ _ _).known.take before).length=_
  rw[g5.1,f1r];omega
 .show (jay _ _ _ _).blocks.length=_
  rw[g5.2,g2.2,g1.2]
theorem js4 {q:Pc} {cls before e k:Nat} {lay:Bool} {w:Ms} (h:before<=w.known.length):(jif q cls before e k lay w).2.known.length=before/\(jif q cls before e k lay w).2.blocks.length=w.blocks.length:=by
 rw[qfz]
 cases lay with
 | true =>
  have g:=jee { w with cur:=k } { q with a:=inc q.a,op:=inc q.op }
  have:=j08 (w:=jcp { w with cur:=k } { q with a:=inc q.a,op:=inc q.op }) (cls:=cls) (before:=before) (e:=e) (k:=k) (q:={ q with a:=inc q.a,op:=inc q.op }) (f02 h g.1)
  simp only[if_true]
  exact⟨this.1,this.2.trans g.2⟩
 | false=>exact j08 (w:={ w with cur:=k }) h
theorem Wok.way {w:Ms} {N:Nat} (wk:Wok w N) (q:Pc) (cls before e k:Nat) (lay:Bool) (hk:k<w.blocks.length):Wok (jif q cls before e k lay w).2 (N+31):=by
 rw[qfz]
 cases lay with
 | true=>exact((wk.setcur hk).lay { q with a:=inc q.a,op:=inc q.op }).tail cls before e k _
 | false =>
  have:=(wk.setcur hk).tail cls before e k { q with a:=inc q.a }
  exact⟨this.m1,this.m2,this.vals,this.known,this.cur,f02 this.nv oa,f02 this.nb oa,f02 this.nk oa,fun b hb=>by have:=this.ni b hb;omega,f02 this.na oa⟩
def pr (w:Ms) (j:Nat):Option (List Nat):=(w.blocks[j]?).map (·.params)
theorem qh0 {l:List Blk} {k j:Nat} {f:Blk->Blk} (hf:∀ b,(f b).params=b.params):((l.modify k f)[j]?).map (·.params)=(l[j]?).map (·.params):=by
 rw[f1n]
 split
 .cases l[j]? with
  | none=>rfl
  | some b=>exact congrArg some (hf b)
 .simp
theorem qh1 (w:Ms) (p:Pc) (j:Nat):pr (jcp w p) j=pr w j:=by
 obtain⟨cs,h1,h2,h3⟩:=jkc w p
 show((jax (ja4 w p).2.blocks _ _)[j]?).map (·.params)=_
 unfold jax
 rw[qh0 (f:=fun b:Blk=>{ b with instrs:=b.instrs++[(ja4 w p).1] }) (fun _=>rfl),h3]
 rfl
theorem jwp (w:Ms) (c:Nat) (p:Pc) (j:Nat):pr (jac w c p).2 j=pr w j:=by
 unfold jac
 split
 .rfl
 .exact qh1 _ _ _
theorem jjf (w:Ms) (k to:Nat) (l:List Nat) (j:Nat):pr (jay w k to l) j=pr w j:=qh0 (fun _=>rfl)
theorem qm4 (w:Ms) (cls before e k:Nat) (q:Pc) (j:Nat):pr (jzb w cls before e k q) j=pr w j:=(jjf _ _ _ _ j).trans ((jwp _ _ _ j).trans (jwp _ _ _ j))
theorem j09 (q:Pc) (cls before e k:Nat) (lay:Bool) (w:Ms) (j:Nat):pr (jif q cls before e k lay w).2 j=pr w j:=by
 rw[qfz,qm4]
 cases lay with
 | true=>exact qh1 _ _ _
 | false=>rfl
theorem qm5 {h:Hp} {p:Nat} {w:Ms} {ns:List Nat} (ok:Ok h) (mr:MR tt h p w ns) {N:Nat} (wk:Wok w N) (hN:N<=50000) (pc:Pc) (pin:Pin pc) :
 WC F2 28 [.s (.ptr p 0),.agg (jb8 pc)] h (fun v h'=>v=.tup []/\∃ ns',MR tt h' p (jfn w pc) ns'/\Mv h h' ns ns'):=by
 refine jaz (no2 rfl rfl) q4u rfl ?_
 unfold qsq
 have hpos:=ok.pos
 have K0:=(FS.refl ok mr).push (a:=.arr (jb8 pc) 90)
 have hx0:=(K0.kp _ (f1a ..)).1
 obtain⟨bx,ebx⟩:∃ bx,h.next=bx:=⟨_,rfl⟩
 simp only[ebx] at K0 hx0
 have hl:=jew (n:=pc.c) (m:=2) oa
 have ok0:=K0.ok
 obtain⟨⟨q1,q2⟩,⟨q3,q4⟩,⟨q5,q6⟩,⟨q7,q8⟩,⟨q9,q10⟩,⟨q11,q12⟩,⟨q13,q14⟩⟩:=id pin
 obtain⟨hA,eA⟩:∃ hA,h.push (AB.arr (jb8 pc) 90)=hA:=⟨_,rfl⟩
 rw[eA] at K0 hx0 ok0
 unfold jb8 at eA hx0
 simp(disch:=go_num) only[go_sem,jfo,jfp,jfq,jfr,jfs,jbx,jao,jal,jbe jhw,jb8,eA,hx0,ebx]
 refine WC.imp (jiz K0 wk oa (pc:=pc) pin) ?_
 rintro _ h1 ⟨rfl,ns1,K1⟩
 have wk1:=wk.lay pc
 have gl:=jee w pc
 have hne:=jpl (w:=w) (p:=pc)
 obtain⟨w1,e1⟩:∃ w1,w1=jcp w pc:=⟨_,rfl⟩
 rw[←e1] at K1 wk1 gl hne
 have hlen1:1<=w1.known.length:=f1v.2 hne
 obtain⟨a,b,c,hg,kl,bl⟩:=K1.cells
 have ok1:=K1.ok
 simp(disch:=go_num) only[go_sem,hg,kl]
 refine WC.imp (jkd K1 wk1 oa) ?_
 rintro _ h2 ⟨rfl,ns2,K2⟩
 have wk2:=wk1.block [] se se
 have ok2:=K2.ok
 simp(disch:=go_num) only[go_sem]
 refine WC.imp (jkd K2 wk2 oa) ?_
 rintro _ h3 ⟨rfl,ns3,K3⟩
 have wk3:=wk2.block [] se se
 have ok3:=K3.ok
 simp(disch:=go_num) only[go_sem]
 have K3':=K3.push (a:=.arr [si (pk pc.c 2:Nat),si (0:Nat)] 3)
 refine WC.imp (jwn K3' wk3 oa oa) ?_
 rintro _ h4 ⟨rfl,ns4,K4⟩
 have wk4:=wk3.block [pk pc.c 2,0] se (by simp;omega)
 have ok4:=K4.ok
 simp(disch:=go_num) only[go_sem]
 have b1:(jag w1 []).blocks.length=w1.blocks.length+1:=by simp[jag]
 have b2:(jag (jag w1 []) []).blocks.length=w1.blocks.length+2:=by simp[jag]
 have b3:(jag (jag (jag w1 []) []) [pk pc.c 2,0]).blocks.length=w1.blocks.length+3:=by simp[jag]
 have p3:pr (jag (jag (jag w1 []) []) [pk pc.c 2,0]) (w1.blocks.length+2)=some (List.range' (w1.values.length) 2):=by
  unfold pr jag
  simp
 have hcur:=wk1.cur
 rw[b1,b2]
 have v3:(jag (jag (jag w1 []) []) [pk pc.c 2,0]).known=w1.known:=rfl
 generalize e4:jag (jag (jag w1 []) []) [pk pc.c 2,0]=w4 at *
 refine WC.imp (jm9 K4 wk4 oa (a:=w1.cur) (to:=w1.blocks.length) oa) ?_
 rintro _ h5 ⟨rfl,ns5,K5⟩
 have wk5:=wk4.edge w1.cur w1.blocks.length []
 have g5:=jb4 w4 w1.cur w1.blocks.length []
 have ok5:=K5.ok
 simp(disch:=go_num) only[go_sem]
 refine WC.imp (jm9 K5 wk5 oa (a:=w1.cur) (to:=w1.blocks.length+1) oa) ?_
 rintro _ h6 ⟨rfl,ns6,K6⟩
 have wk6:=wk5.edge w1.cur (w1.blocks.length+1) []
 have g6:=jb4 (jay w4 w1.cur w1.blocks.length []) w1.cur (w1.blocks.length+1) []
 have p6:pr (jay (jay w4 w1.cur w1.blocks.length []) w1.cur (w1.blocks.length+1) []) (w1.blocks.length+2)=some (List.range' (w1.values.length) 2):=by rw[jjf,jjf,p3]
 have ok6:=K6.ok
 obtain⟨w6,e6⟩:∃ w6,w6=jay (jay w4 w1.cur w1.blocks.length []) w1.cur (w1.blocks.length+1) []:=⟨_,rfl⟩
 rw[←e6] at K6 wk6 g6 p6
 simp(disch:=go_num) only[go_sem]
 have K7:=(K6.push (a:=.arr [si (w1.blocks.length:Nat),si (w1.blocks.length+1:Nat)] 3)).sub (L':=[(bx,.arr (jb8 pc) 90),(h6.next,.arr [si (w1.blocks.length:Nat),si (w1.blocks.length+1:Nat)] 3)]) se
 have hb:h6.next≠bx:=by have:=(K6.kp _ (f1a ..)).2.2.1;simp only at this;omega
 have hkn:w6.known.length=w1.known.length:=by rw[g6.1,g5.1,v3]
 refine j9f K7 hb hpos wk6 oa pin (i:=0) (k:=w1.blocks.length) oa rfl hl oa hlen1 oa (fun hj ns7 x3 x4 x6 x7 x8 x10 K8=>?_)
 have d0:decide (0=0∨pk pc.flags 2=1)=true:=se
 rw[d0] at K8
 have l8:=js4 (q:=pc) (cls:=pk pc.c 2) (before:=w1.known.length) (e:=w1.blocks.length+2) (k:=w1.blocks.length) (lay:=true) (w:=w6) oa
 have wk8:=wk6.way pc (pk pc.c 2) w1.known.length (w1.blocks.length+2) w1.blocks.length true oa
 have pn8:=qm3 pin (pk pc.c 2) w1.known.length (w1.blocks.length+2) w1.blocks.length true w6
 have p8:=(j09 pc (pk pc.c 2) w1.known.length (w1.blocks.length+2) w1.blocks.length true w6 (w1.blocks.length+2)).trans p6
 have f8:(jif pc (pk pc.c 2) w1.known.length (w1.blocks.length+2) w1.blocks.length true w6).1.flags=pc.flags:=rfl
 obtain⟨x,ex⟩:∃ x,x=jif pc (pk pc.c 2) w1.known.length (w1.blocks.length+2) w1.blocks.length true w6:=⟨_,rfl⟩
 rw[←ex] at K8 l8 wk8 pn8 p8 f8
 refine j9f K8 hb hpos wk8 oa pn8 (i:=1) (k:=w1.blocks.length+1) oa rfl hl oa hlen1 oa (fun hj9 ns9 y3 y4 y6 y7 y8 y10 K9=>?_)
 have d1:decide (1=0∨pk x.1.flags 2=1)=decide (pk pc.flags 2=1):=by rw[f8];simp
 rw[d1] at K9
 have l9:=js4 (q:=x.1) (cls:=pk pc.c 2) (before:=w1.known.length) (e:=w1.blocks.length+2) (k:=w1.blocks.length+1) (lay:=decide (pk pc.flags 2=1)) (w:=x.2) oa
 have wk9:=wk8.way x.1 (pk pc.c 2) w1.known.length (w1.blocks.length+2) (w1.blocks.length+1) (decide (pk pc.flags 2=1)) oa
 have p9:=(j09 x.1 (pk pc.c 2) w1.known.length (w1.blocks.length+2) (w1.blocks.length+1) (decide (pk pc.flags 2=1)) x.2 (w1.blocks.length+2)).trans p8
 obtain⟨y,ey⟩:∃ y,y=jif x.1 (pk pc.c 2) w1.known.length (w1.blocks.length+2) (w1.blocks.length+1) (decide (pk pc.flags 2=1)) x.2:=⟨_,rfl⟩
 rw[←ey] at K9 l9 wk9 p9
 rw[jai]
 unfold jwo
 have ok9:=K9.ok
 obtain⟨a9,b9,c9,hg9,kl9,bl9⟩:=K9.cells
 have K10:=K9.setcur (j:=w1.blocks.length+2) hg9
 obtain⟨h10,e10⟩:∃ h10,hj9.put p (some (.arr [si y.2.m.1,si y.2.m.2,a9,b9,si (w1.blocks.length+2:Nat),c9,si y.2.all] tt.mas))=h10:=⟨_,rfl⟩
 rw[e10] at K10
 obtain⟨blk,hblk,hpar⟩:=f0a.1 p9
 have hblk':({ y.2 with cur:=w1.blocks.length+2 }:Ms).blocks[w1.blocks.length+2]?=some blk:=hblk
 have hnk9:=wk9.nk
 obtain⟨a,b,c,bb,pp,z,h11,ns11,hg10,ix,rd1,e11,ok11,hp11,K11⟩:=K10.params hblk' (by rw[hpar];simp) (by rw[hpar];simp;omega)
 have hg11:=hp11.trans hg10
 have ok10:=K10.ok
 simp(disch:=go_num) only[go_sem,hg9,e10,hg10,ix,rd1,e11,hg11]
 have hfin:jfn w pc={ y.2 with cur:=w1.blocks.length+2,known:=y.2.known++blk.params }:=by
  have h1:jfn w pc={ y.2 with cur:=w1.blocks.length+2,known:=y.2.known++(y.2.blocks.getD (w1.blocks.length+2) ⟨[],[],[]⟩).params }:=by
   subst ey ex e6 e4 e1
   rfl
  rw[h1,f0p,hblk,f1l]
 rw[hfin]
 exact⟨_,K11.mr,K11.mv⟩
theorem qsr {a:Int} (h1:-9223372036854775808<=a) (h2:a<=9223372036854775807):-9223372036854775808<=odd a/\odd a<=9223372036854775807:=by
 unfold odd;omega
theorem Pin.odd {q:Pc} (pin:Pin q):Pin { q with flags:=Ms.odd q.flags }:=⟨pin.kind,pin.op,pin.a,pin.b,pin.c,pin.limits,qsr pin.flags.1 pin.flags.2⟩
theorem Wok.params {w:Ms} {N:Nat} (wk:Wok w N) {l:List Nat} (h:∀ v∈l,v<w.values.length) (hl:l.length<=2):Wok { w with known:=w.known++l } (N+2):=⟨wk.m1,wk.m2,wk.vals,fun v hv=>by
 rcases f0e.1 hv with h1 | h1
 .exact wk.known v h1
 .exact h v h1,wk.cur,f1q wk.nv,f1q wk.nb,by have:=wk.nk;simp;omega,fun b hb=>by have:=wk.ni b hb;omega,f1q wk.na⟩
abbrev Zm(pc:Pc):Pc:={ pc with flags:=Ms.odd pc.flags,a:=inc pc.a,op:=inc pc.op }
theorem qf0 {h:Hp} {p:Nat} {w:Ms} {ns:List Nat} (ok:Ok h) (mr:MR tt h p w ns) {N:Nat} (wk:Wok w N) (hN:N<=50000) (pc:Pc) (pin:Pin pc) :
 WC F2 29 [.s (.ptr p 0),.agg (jb8 pc)] h (fun v h'=>v=.tup []/\∃ ns',MR tt h' p (jgl w pc) ns'/\Mv h h' ns ns'):=by
 refine jaz (no2 rfl rfl) qmo rfl ?_
 unfold j0y
 have hpos:=ok.pos
 have K0:=(FS.refl ok mr).push (a:=.arr (jb8 pc) 90)
 have hx0:=(K0.kp _ (f1a ..)).1
 obtain⟨bx,ebx⟩:∃ bx,h.next=bx:=⟨_,rfl⟩
 simp only[ebx] at K0 hx0
 have hl:=jew (n:=pc.c) (m:=2) oa
 have ok0:=K0.ok
 obtain⟨⟨q1,q2⟩,⟨q3,q4⟩,⟨q5,q6⟩,⟨q7,q8⟩,⟨q9,q10⟩,⟨q11,q12⟩,⟨q13,q14⟩⟩:=id pin
 obtain⟨hA,eA⟩:∃ hA,h.push (AB.arr (jb8 pc) 90)=hA:=⟨_,rfl⟩
 rw[eA] at K0 hx0 ok0
 unfold jb8 at eA hx0
 simp(disch:=go_num) only[go_sem,jfo,jfp,jfq,jfr,jfs,jbx,jao,jal,jbe jhw,jb8,eA,hx0,ebx]
 refine WC.imp (jgn K0 wk oa hl (pc:=pc) pin) ?_
 rintro _ h1 ⟨rfl,ns1,K1⟩
 have wk1:=wk.new (pk pc.c 2) pc
 have ok1:=K1.ok
 have hx1:=(K1.kp _ (f1a ..)).1
 unfold jb8 at hx1
 obtain⟨v,ev⟩:∃ v,v=jac w (pk pc.c 2) pc:=⟨_,rfl⟩
 rw[←ev] at K1 wk1
 rw[←ev]
 simp(disch:=go_num) only[go_sem,hx1]
 refine WC.imp (jgn K1 wk1 oa (cls:=0) oa (pc:=pc) pin) ?_
 rintro _ h2 ⟨rfl,ns2,K2⟩
 have wk2:=wk1.new 0 pc
 have ok2:=K2.ok
 obtain⟨u,eu⟩:∃ u,u=jac v.2 0 pc:=⟨_,rfl⟩
 rw[←eu] at K2 wk2
 rw[←eu]
 simp(disch:=go_num) only[go_sem]
 have K2':=K2.push (a:=.arr [si (pk pc.c 2:Nat),si (0:Nat)] 3)
 refine WC.imp (jwn K2' wk2 oa oa) ?_
 rintro _ h3 ⟨rfl,ns3,K3⟩
 have wk3:=wk2.block [pk pc.c 2,0] se (by simp;omega)
 have ok3:=K3.ok
 have b3:(jag u.2 [pk pc.c 2,0]).blocks.length=u.2.blocks.length+1:=by simp[jag]
 have p3:pr (jag u.2 [pk pc.c 2,0]) u.2.blocks.length=some (List.range' u.2.values.length 2):=by
  unfold pr jag
  simp
 have n3:(jag u.2 [pk pc.c 2,0]).values.length=u.2.values.length+2:=by simp[jag]
 generalize e3:jag u.2 [pk pc.c 2,0]=w3 at *
 obtain⟨a,b,c,hg,kl,bl⟩:=K3.cells
 have hcur3:=wk3.cur
 simp(disch:=go_num) only[go_sem,hg]
 have K3':=K3.push (a:=.arr [si (v.1:Nat),si (u.1:Nat)] 3)
 refine WC.imp (js2 K3' (fun r hr=>by have:=(K3.kp r hr).2.2.1;omega) hpos wk3 oa (a:=w3.cur) (to:=u.2.blocks.length) hcur3) ?_
 rintro _ h4 ⟨rfl,ns4,K4⟩
 have wk4:=wk3.edge w3.cur u.2.blocks.length [v.1,u.1]
 have g4:=jb4 w3 w3.cur u.2.blocks.length [v.1,u.1]
 have p4:=(jjf w3 w3.cur u.2.blocks.length [v.1,u.1] u.2.blocks.length).trans p3
 have n4:(jay w3 w3.cur u.2.blocks.length [v.1,u.1]).values=w3.values:=rfl
 generalize e4:jay w3 w3.cur u.2.blocks.length [v.1,u.1]=w4 at *
 have ok4:=K4.ok
 obtain⟨a4,b4,c4,hg4,kl4,bl4⟩:=K4.cells
 have K5:=K4.setcur (j:=u.2.blocks.length) hg4
 have wk5:=wk4.setcur (j:=u.2.blocks.length) oa
 obtain⟨h5,e5⟩:∃ h5,h4.put p (some (.arr [si w4.m.1,si w4.m.2,a4,b4,si (u.2.blocks.length:Nat),c4,si w4.all] tt.mas))=h5:=⟨_,rfl⟩
 rw[e5] at K5
 have ok5:=K5.ok
 obtain⟨blk,hblk,hpar⟩:=f0a.1 p4
 have hblk':({ w4 with cur:=u.2.blocks.length }:Ms).blocks[u.2.blocks.length]?=some blk:=hblk
 have hnk4:=wk4.nk
 obtain⟨a5,b5,c5,bb,pp,z,h6,ns6,hg5,ix,rd1,ea,ok6,hp6,K6⟩:=K5.params hblk' (by rw[hpar];simp) (by rw[hpar];simp;omega)
 have hg6:=hp6.trans hg5
 have wk6:=wk5.params (l:=blk.params) (fun v hv=>by
  rw[hpar] at hv
  have:=(f2r.1 hv).2
  show v<w4.values.length
  rw[n4,n3];exact this) (by rw[hpar];simp)
 obtain⟨h7,e7⟩:∃ h7,h6.put p (some (.arr [si w4.m.1,si w4.m.2,a5,b5,si (u.2.blocks.length:Nat),z,si w4.all] tt.mas))=h7:=⟨_,rfl⟩
 have K7:FS h h7 p { w4 with cur:=u.2.blocks.length,known:=w4.known++blk.params } ns [(bx,.arr (jb8 pc) 90)] ns6:=by rw[←e7];exact K6
 have wk7:Wok { w4 with cur:=u.2.blocks.length,known:=w4.known++blk.params } _:=wk6
 have ok7:=K7.ok
 have hx7:=(K7.kp _ (f1a ..)).1
 have K8:=K7.put (a':=.arr (jb8 { pc with flags:=Ms.odd pc.flags }) 90) se hpos
 obtain⟨h8,e8⟩:∃ h8,h7.put bx (some (.arr (jb8 { pc with flags:=Ms.odd pc.flags }) 90))=h8:=⟨_,rfl⟩
 rw[e8] at K8
 have ok8:=K8.ok
 have hx8:=(K8.kp _ (f1a ..)).1
 unfold jb8 at hx7 hx8 e8
 have hor:=qlk q13 q14
 have hor':jel .or (.int .i64 pc.flags) (.int .i64 1)=some (vi (Ms.odd pc.flags)):=hor
 simp(disch:=go_num) only[go_sem,hg4,e5,hg5,ix,rd1,ea,hg6,e7,hx7,hor',e8,hx8]
 obtain⟨w7,ew7⟩:∃ w7:Ms,w7={ w4 with cur:=u.2.blocks.length,known:=w4.known++blk.params }:=⟨_,rfl⟩
 rw[←ew7] at K8 wk7
 have l7:w7.blocks.length=w4.blocks.length:=by rw[ew7]
 refine WC.imp (jiz K8 wk7 oa (pc:={ pc with flags:=Ms.odd pc.flags }) pin.odd) ?_
 rintro _ h9 ⟨rfl,ns9,K9⟩
 have wk9:=wk7.lay { pc with flags:=Ms.odd pc.flags }
 have g9:=jee w7 { pc with flags:=Ms.odd pc.flags }
 have hne:=jpl (w:=w7) (p:={ pc with flags:=Ms.odd pc.flags })
 obtain⟨w9,e9⟩:∃ w9,w9=jcp w7 { pc with flags:=Ms.odd pc.flags }:=⟨_,rfl⟩
 rw[←e9] at K9 wk9 g9 hne
 have hlen9:1<=w9.known.length:=f1v.2 hne
 have ok9:=K9.ok
 obtain⟨a9,b9,c9,hg9,kl9,bl9⟩:=K9.cells
 simp(disch:=go_num) only[go_sem,hg9,kl9]
 refine WC.imp (jkd K9 wk9 oa) ?_
 rintro _ hA1 ⟨rfl,nsA,KA⟩
 have wkA:=wk9.block [] se se
 have okA:=KA.ok
 simp(disch:=go_num) only[go_sem]
 refine WC.imp (jkd KA wkA oa) ?_
 rintro _ hB ⟨rfl,nsB,KB⟩
 have wkB:=wkA.block [] se se
 have okB:=KB.ok
 have bA:(jag w9 []).blocks.length=w9.blocks.length+1:=by simp[jag]
 have bB:(jag (jag w9 []) []).blocks.length=w9.blocks.length+2:=by simp[jag]
 have vB:(jag (jag w9 []) []).known=w9.known:=rfl
 rw[bA]
 generalize eB:jag (jag w9 []) []=wB at *
 simp(disch:=go_num) only[go_sem]
 refine WC.imp (jm9 KB wkB oa (a:=u.2.blocks.length) (to:=w9.blocks.length) oa) ?_
 rintro _ hC ⟨rfl,nsC,KC⟩
 have wkC:=wkB.edge u.2.blocks.length w9.blocks.length []
 have gC:=jb4 wB u.2.blocks.length w9.blocks.length []
 have okC:=KC.ok
 simp(disch:=go_num) only[go_sem]
 refine WC.imp (jm9 KC wkC oa (a:=u.2.blocks.length) (to:=w9.blocks.length+1) oa) ?_
 rintro _ hD ⟨rfl,nsD,KD⟩
 have wkD:=wkC.edge u.2.blocks.length (w9.blocks.length+1) []
 have gD:=jb4 (jay wB u.2.blocks.length w9.blocks.length []) u.2.blocks.length (w9.blocks.length+1) []
 have okD:=KD.ok
 obtain⟨wD,eD⟩:∃ wD,wD=jay (jay wB u.2.blocks.length w9.blocks.length []) u.2.blocks.length (w9.blocks.length+1) []:=⟨_,rfl⟩
 rw[←eD] at KD wkD gD
 obtain⟨aD,bD,cD,hgD,klD,blD⟩:=KD.cells
 have KE:=KD.setcur (j:=w9.blocks.length) hgD
 have wkE:=wkD.setcur (j:=w9.blocks.length) oa
 obtain⟨hE,eE⟩:∃ hE,hD.put p (some (.arr [si wD.m.1,si wD.m.2,aD,bD,si (w9.blocks.length:Nat),cD,si wD.all] tt.mas))=hE:=⟨_,rfl⟩
 rw[eE] at KE
 have okE:=KE.ok
 have hxE:=(KE.kp _ (f1a ..)).1
 have KF:=KE.put (a':=.arr (jb8 { pc with flags:=Ms.odd pc.flags,a:=inc pc.a }) 90) se hpos
 obtain⟨hF,eF⟩:∃ hF,hE.put bx (some (.arr (jb8 { pc with flags:=Ms.odd pc.flags,a:=inc pc.a }) 90))=hF:=⟨_,rfl⟩
 rw[eF] at KF
 have okF:=KF.ok
 have hxF:=(KF.kp _ (f1a ..)).1
 have KG:=KF.put (a':=.arr (jb8 (Zm pc)) 90) se hpos
 obtain⟨hG,eG⟩:∃ hG,hF.put bx (some (.arr (jb8 (Zm pc)) 90))=hG:=⟨_,rfl⟩
 rw[eG] at KG
 have okG:=KG.ok
 have hxG:=(KG.kp _ (f1a ..)).1
 unfold jb8 at hxE hxF hxG eF eG
 have ha:=js3 q5 q6
 have ho:=js3 q3 q4
 simp(disch:=go_num) only[go_sem,hgD,eE,hxE,ha,eF,hxF,ho,eG,hxG]
 have pinG:Pin (Zm pc):=pin.odd.incA.incO
 refine WC.imp (jiz KG wkE oa (pc:=(Zm pc)) pinG) ?_
 rintro _ hH ⟨rfl,nsH,KH⟩
 have wkH:=wkE.lay (Zm pc)
 have gH:=jee { wD with cur:=w9.blocks.length } (Zm pc)
 have okH:=KH.ok
 have hxH:=(KH.kp _ (f1a ..)).1
 unfold jb8 at hxH
 simp(disch:=go_num) only[go_sem,hxH]
 refine WC.imp (jgn KH wkH oa hl (pc:=(Zm pc)) pinG) ?_
 rintro _ hI ⟨rfl,nsI,KI⟩
 have wkI:=wkH.new (pk pc.c 2) (Zm pc)
 have gI:=jc8 (jcp { wD with cur:=w9.blocks.length } (Zm pc)) (pk pc.c 2) (Zm pc)
 have okI:=KI.ok
 have hxI:=(KI.kp _ (f1a ..)).1
 unfold jb8 at hxI
 obtain⟨x,ex⟩:∃ x,x=jac (jcp { wD with cur:=w9.blocks.length } (Zm pc)) (pk pc.c 2) (Zm pc):=⟨_,rfl⟩
 rw[←ex] at KI wkI gI
 rw[←ex]
 simp(disch:=go_num) only[go_sem,hxI]
 refine WC.imp (jgn KI wkI oa (cls:=0) oa (pc:=(Zm pc)) pinG) ?_
 rintro _ hJ ⟨rfl,nsJ,KJ⟩
 have wkJ:=wkI.new 0 (Zm pc)
 have gJ:=jc8 x.2 0 (Zm pc)
 have okJ:=KJ.ok
 obtain⟨y,ey⟩:∃ y,y=jac x.2 0 (Zm pc):=⟨_,rfl⟩
 rw[←ey] at KJ wkJ gJ
 rw[←ey]
 simp(disch:=go_num) only[go_sem]
 have KJ':=KJ.push (a:=.arr [si (x.1:Nat),si (y.1:Nat)] 3)
 have lD:wD.blocks.length=w9.blocks.length+2:=by rw[gD.2,gC.2,bB]
 have lH:({ wD with cur:=w9.blocks.length }:Ms).blocks.length=w9.blocks.length+2:=lD
 refine WC.imp (js2 KJ' (fun r hr=>by have:=(KJ.kp r hr).2.2.1;omega) hpos wkJ oa (a:=w9.blocks.length) (to:=u.2.blocks.length) oa) ?_
 rintro _ hK ⟨rfl,nsK,KK⟩
 have wkK:=wkJ.edge w9.blocks.length u.2.blocks.length [x.1,y.1]
 have gK:=jb4 y.2 w9.blocks.length u.2.blocks.length [x.1,y.1]
 have okK:=KK.ok
 obtain⟨wK,eK⟩:∃ wK,wK=jay y.2 w9.blocks.length u.2.blocks.length [x.1,y.1]:=⟨_,rfl⟩
 rw[←eK] at KK wkK gK
 have kD:wD.known.length=w9.known.length:=by rw[gD.1,gC.1,vB]
 have kH:({ wD with cur:=w9.blocks.length }:Ms).known.length=w9.known.length:=kD
 have kK:w9.known.length<=wK.known.length:=by rw[gK.1];have:=gH.1;have:=gI.1;have:=gJ.1;omega
 obtain⟨aK,bK,cK,xK,yK,hL,nsL,hgK,eK1,eK2,okL,hpL,KL⟩:=KK.take hlen9 kK (by have:=wkK.nk;omega)
 have hgL:=hpL.trans hgK
 obtain⟨hM,eM⟩:∃ hM,hL.put p (some (.arr [si wK.m.1,si wK.m.2,aK,bK,si wK.cur,yK,si wK.all] tt.mas))=hM:=⟨_,rfl⟩
 rw[eM] at KL
 have okM:=KL.ok
 obtain⟨aM,bM,cM,hgM,klM,blM⟩:=KL.cells
 have KN:=KL.setcur (j:=w9.blocks.length+1) hgM
 simp(disch:=go_num) only[go_sem,hgK,eK1,eK2,hgL,jhx,eM,hgM]
 have hfin:jgl w pc={ wK with known:=wK.known.take w9.known.length,cur:=w9.blocks.length+1 }:=by
  have hp:(w4.blocks.getD u.2.blocks.length ⟨[],[],[]⟩).params=blk.params:=by rw[f0p,hblk,f1l]
  rw[←hp] at ew7
  subst eK ey ex eD eB e9 ew7 e4 e3 eu ev
  rfl
 rw[hfin]
 exact⟨_,KN.mr,KN.mv⟩
def js5:IC:=.draw [(qM 11,.none),(qN,.none),(qG 2,.none),(qG 1,.none),(qL,.some []),(qP (.len qa),.none),(qP (.bin .add qa (qC 3)),.none),(qP (.bin .le qa (qC 16)),.none),(qP (.mv qa),.none),(qR 0 true (.mv (.g 11)),.none),(qR 1 true (.nchk qa),.none),(qR 2 true (.fld 2 qa),.none),(qR 3 true (.fld 1 qa),.none),(qS 4 true (.load 1 false qa),.some []),(qR 5 true (.mv (.g 11)),.none),(qR 6 true (.nchk qa),.none),(qR 7 true (.fld 4 qa),.none),(qS 8 true (.load 1 false qa),.some [3]),(qR 9 true (.ixs 3 (.l 4) qa),.none),(qR 10 true (.fld 1 qa),.none),(qS 11 true (.load 1 false qa),.none),(qR 12 true (.len qa),.none),(qR 13 true (.bin .lt qa (qC 20)),.none),(qP (.pick (.l 14) qa (.c (.s (.bool false)))),.none),(qP (.mv qa),.none),(qR 0 true (.mv (.g 11)),.none),(qR 1 true (.nchk qa),.none),(qR 2 true (.fld 2 qa),.none),(qR 3 true (.fld 0 qa),.none),(qS 4 true (.load 1 false qa),.none),(qR 5 true (.len qa),.none),(qR 6 true (.bin .lt qa (qC 110)),.none),(qP (.pick (.l 7) qa (.c (.s (.bool false)))),.none),(qT 6,.none)]
def js6:IC:=.draw [(qM 11,.none),(qN,.none),(qG 2,.none),(qG 1,.none),(qL,.some []),(qM 11,.none),(qN,.none),(qG 4,.none),(qL,.some [3]),(qP (.ixs 3 (.l 4) qa),.none),(qG 1,.none),(qL,.none),(qP (.len qa),.none),(qP (.bin .lt qa (qC 20)),.none),(qP (.mv qa),.none),(qR 0 true (.mv (.g 11)),.none),(qR 1 true (.nchk qa),.none),(qR 2 true (.fld 2 qa),.none),(qR 3 true (.fld 0 qa),.none),(qS 4 true (.load 1 false qa),.none),(qR 5 true (.len qa),.none),(qR 6 true (.bin .lt qa (qC 120)),.none),(qP (.pick (.l 7) qa (.c (.s (.bool false)))),.none),(qT 3,.none)]
def j1a:IC:=.seq (.block 1 (qr [qM 1,qM 10,qP (.ixs 7 qb qa),qK 7,qB 8 (.new 90 Zb),qA (.store 7 qa qb)] (.seq js5 (qr [qF 0 8,qL,qA (.call 8 [qa,qC 6]),qT 7] (.block 2 (qr [qM 7,qP (.bin .eq qa (qC 0)),qP (.mv qa),qR 0 true (.mv (.g 6)),qP (.pick qb qa (.c (.s (.bool false)))),qT 5] (.cond (.g 5) (.region [qM 11,qA (.load 7 true (.g 8)),qA (.call 28 [qb,qa])]) (qr [qM 7,qP (.bin .eq qa (qC 1)),qP (.mv qa),qR 0 true (.mv (.g 6)),qP (.pick qb qa (.c (.s (.bool false)))),qT 4] (.cond (.g 4) (.region [qM 11,qA (.load 7 true (.g 8)),qA (.call 29 [qb,qa])]) (.seq js6 (.cond (.g 3) (.region [qM 11,qA (.load 7 true (.g 8)),qA (.call 30 [qb,qa])]) .skip))))))))))) (.region [qM 10,qP (.bin .add qa (qC 1)),qT 10])
def jig:IC:=.seq (qr [qM 10,qM 1,qP (.len qa),qP (.bin .lt qc qa),qP (.mv qa),qR 0 true (.mv (.g 10)),qR 1 true (.bin .lt qa (qC 24)),qQ 9 (.pick qc qa (.c (.s (.bool false))))] (qX 9 0)) j1a
def j9g:IC:=qr [qB 12 (.box 28 (.g 0)),qB 2 (.new 32 Zj)] (qr [qA (.load 2 true (.g 12)),qP (.build [.int .i64 0,.int .i64 0,.nilSlice,.nilSlice,.int .i64 0,.nilSlice,.int .i64 0] [(0,(2,qa))]),qA (.box 87 qa),qT 11] (qr [qM 11,qA (.call 27 [qa,.c (.s .nilSlice)])] (.seq (qr [qQ 10 (.mv (qC 0))] (.block 0 (.loop jig))) (qr [qM 11,qP (.build Zb [(2,(1,qC 1)),(6,(1,qC 3))]),qA (.call 30 [qb,qa])] (qr [qM 11,qN,qG 2,qK 2,qA (.store 2 (.g 2) qa)] .ret)))))
theorem qss:T 18=some (.mk j9g 2 11 [(.cell 2 2 true)]):=ka
theorem FS.cur {h0 hi:Hp} {p:Nat} {w:Ms} {ns ns':List Nat} {L:List (Nat×AB)} (k:FS h0 hi p w ns L ns') (hc:w.cur<w.blocks.length):∃ a b c bb ia,hi.get p=some (.arr [si w.m.1,si w.m.2,a,b,si w.cur,c,si w.all] tt.mas)/\jsn (.s a)=some (vi w.values.length)/\jsn (.s b)=some (vi w.blocks.length) /\
 jqo 3 (.s b) (vi (w.cur:Int))=some (.s (.ptr bb (w.cur*3)))/\rdB (hi.get bb) (w.cur*3+1) 1=some [ia]/\jsn (.s ia)=some (vi (lenOf w)):=by
 obtain⟨⟨a,b,c,n1,n2,n3,h1,h2,h3,h4,e⟩,h5,h6⟩:=k.mr
 obtain⟨blk,hblk⟩:∃ blk,w.blocks[w.cur]?=some blk:=⟨_,f0b hc⟩
 obtain⟨bb,row,ms,ix,hrd,hrl,⟨pp,ia,ee,na,nb,nc,rfl,sp,sI,sE,rfl⟩,hms,hbb⟩:=h3.at hblk
 have rd1:=jd1 (j:=1) (c:=ia) hrd rfl
 refine⟨a,b,c,bb,ia,h1,h2.len,h3.len,ix,rd1,?_⟩
 rw[sI.len]
 unfold lenOf
 rw[f0p,hblk,f1l]
def j1b (w:Ms):Bool:=decide (w.blocks.length+3<=16)&&(decide (lenOf w<20)&&decide (w.values.length<110))
theorem qm6 {h0 hi:Hp} {p:Nat} {w:Ms} {ns ns':List Nat} {L:List (Nat×AB)} (k:FS h0 hi p w ns L ns') (hc:w.cur<w.blocks.length) (h1:w.blocks.length<=100000)
 (hQ:Q .normal (.mk [x0,x1,x2,x3,x4,x5,vb (j1b w),x7,x8,x9,x10,.s (.ptr p 0),x12] hi)):W F2 js5 (.mk [x0,x1,x2,x3,x4,x5,x6,x7,x8,x9,x10,.s (.ptr p 0),x12] hi) Q:=by
 unfold js5
 obtain⟨a,b,c,bb,ia,hg,vl,bl,ix,rd1,il⟩:=k.cur hc
 have ok:=k.ok
 unfold j1b at hQ
 by_cases c1:(w.blocks.length:Int)+3<=16
 .have e1:decide (w.blocks.length+3<=16)=true:=decide_eq_true oa
  rw[e1] at hQ
  by_cases c2:(lenOf w:Int)<20
  .have e2:decide (lenOf w<20)=true:=decide_eq_true oa
   rw[e2] at hQ
   by_cases c3:(w.values.length:Int)<110
   .have e3:decide (w.values.length<110)=true:=decide_eq_true oa
    rw[e3] at hQ
    simp(disch:=go_num) only[go_sem,hg,vl,bl,ix,rd1,il,jad,eq_true c1,eq_true c2,eq_true c3]
    exact hQ
   .have e3:decide (w.values.length<110)=false:=decide_eq_false oa
    rw[e3] at hQ
    simp(disch:=go_num) only[go_sem,hg,vl,bl,ix,rd1,il,jad,eq_true c1,eq_true c2,eq_false c3]
    exact hQ
  .have e2:decide (lenOf w<20)=false:=decide_eq_false oa
   rw[e2] at hQ
   simp(disch:=go_num) only[go_sem,hg,vl,bl,ix,rd1,il,jad,eq_true c1,eq_false c2]
   exact hQ
 .have e1:decide (w.blocks.length+3<=16)=false:=decide_eq_false oa
  rw[e1] at hQ
  simp(disch:=go_num) only[go_sem,hg,vl,bl,ix,rd1,il,jad,eq_false c1]
  exact hQ
def jmt (w:Ms):Bool:=decide (lenOf w<20)&&decide (w.values.length<120)
theorem jna {h0 hi:Hp} {p:Nat} {w:Ms} {ns ns':List Nat} {L:List (Nat×AB)} (k:FS h0 hi p w ns L ns') (hc:w.cur<w.blocks.length)
 (hQ:Q .normal (.mk [x0,x1,x2,vb (jmt w),x4,x5,x6,x7,x8,x9,x10,.s (.ptr p 0),x12] hi)):W F2 js6 (.mk [x0,x1,x2,x3,x4,x5,x6,x7,x8,x9,x10,.s (.ptr p 0),x12] hi) Q:=by
 unfold js6
 obtain⟨a,b,c,bb,ia,hg,vl,bl,ix,rd1,il⟩:=k.cur hc
 have ok:=k.ok
 unfold jmt at hQ
 by_cases c2:(lenOf w:Int)<20
 .have e2:decide (lenOf w<20)=true:=decide_eq_true oa
  rw[e2] at hQ
  by_cases c3:(w.values.length:Int)<120
  .have e3:decide (w.values.length<120)=true:=decide_eq_true oa
   rw[e3] at hQ
   simp(disch:=go_num) only[go_sem,hg,vl,bl,ix,rd1,il,jad,eq_true c2,eq_true c3]
   exact hQ
  .have e3:decide (w.values.length<120)=false:=decide_eq_false oa
   rw[e3] at hQ
   simp(disch:=go_num) only[go_sem,hg,vl,bl,ix,rd1,il,jad,eq_true c2,eq_false c3]
   exact hQ
 .have e2:decide (lenOf w<20)=false:=decide_eq_false oa
  rw[e2] at hQ
  simp(disch:=go_num) only[go_sem,hg,vl,bl,ix,rd1,il,jad,eq_false c2]
  exact hQ
theorem j9h (w:Ms) (p:Pc):w.values.length<=(jcp w p).values.length:=by
 obtain⟨cs,h1,h2,h3⟩:=jkc w p
 show _<=(ja4 w p).2.values.length
 rw[h3];simp
theorem jrx (w:Ms) (c:Nat) (p:Pc):w.values.length<=(jac w c p).2.values.length:=by
 unfold jac
 split
 .exact f0h _
 .exact j9h _ _
theorem j1c (w:Ms) (cls before e k:Nat) (q:Pc):w.values.length<=(jzb w cls before e k q).values.length :=
 f02 (jrx w cls q) (jrx _ 0 q)
theorem j9i (q:Pc) (cls before e k:Nat) (lay:Bool) (w:Ms):w.values.length<=(jif q cls before e k lay w).2.values.length:=by
 rw[qfz]
 cases lay with
 | true=>exact f02 (j9h { w with cur:=k } _) (j1c _ _ _ _ _ _)
 | false=>exact j1c { w with cur:=k } _ _ _ _ _
theorem Wok.le {w:Ms} {N M:Nat} (wk:Wok w N) (h:N<=M):Wok w M:=⟨wk.m1,wk.m2,wk.vals,wk.known,wk.cur,f02 wk.nv h,f02 wk.nb h,f02 wk.nk h,fun b hb=>by have:=wk.ni b hb;omega,f02 wk.na h⟩
theorem Wok.fork {w:Ms} {N:Nat} (wk:Wok w N) (pc:Pc):Wok (jfn w pc) (N+100):=by
 have hl:=jew (n:=pc.c) (m:=2) oa
 have wk1:=wk.lay pc
 have gl:=jee w pc
 obtain⟨w1,e1⟩:∃ w1,w1=jcp w pc:=⟨_,rfl⟩
 rw[←e1] at wk1 gl
 have wk4:=((wk1.block [] se se).block [] se se).block [pk pc.c 2,0] se (by simp;omega)
 have b3:(jag (jag (jag w1 []) []) [pk pc.c 2,0]).blocks.length=w1.blocks.length+3:=by simp[jag]
 have p3:pr (jag (jag (jag w1 []) []) [pk pc.c 2,0]) (w1.blocks.length+2)=some (List.range' (w1.values.length) 2):=by
  unfold pr jag
  simp
 have v3:(jag (jag (jag w1 []) []) [pk pc.c 2,0]).known=w1.known:=rfl
 have n3:(jag (jag (jag w1 []) []) [pk pc.c 2,0]).values.length=w1.values.length+2:=by simp[jag]
 generalize e4:jag (jag (jag w1 []) []) [pk pc.c 2,0]=w4 at *
 have wk6:=(wk4.edge w1.cur w1.blocks.length []).edge w1.cur (w1.blocks.length+1) []
 have g5:=jb4 w4 w1.cur w1.blocks.length []
 have g6:=jb4 (jay w4 w1.cur w1.blocks.length []) w1.cur (w1.blocks.length+1) []
 have p6:pr (jay (jay w4 w1.cur w1.blocks.length []) w1.cur (w1.blocks.length+1) []) (w1.blocks.length+2)=some (List.range' (w1.values.length) 2):=by rw[jjf,jjf,p3]
 have n6:(jay (jay w4 w1.cur w1.blocks.length []) w1.cur (w1.blocks.length+1) []).values=w4.values:=rfl
 obtain⟨w6,e6⟩:∃ w6,w6=jay (jay w4 w1.cur w1.blocks.length []) w1.cur (w1.blocks.length+1) []:=⟨_,rfl⟩
 rw[←e6] at wk6 g6 p6 n6
 have hkn:w6.known.length=w1.known.length:=by rw[g6.1,g5.1,v3]
 have l8:=js4 (q:=pc) (cls:=pk pc.c 2) (before:=w1.known.length) (e:=w1.blocks.length+2) (k:=w1.blocks.length) (lay:=true) (w:=w6) oa
 have wk8:=wk6.way pc (pk pc.c 2) w1.known.length (w1.blocks.length+2) w1.blocks.length true oa
 have p8:=(j09 pc (pk pc.c 2) w1.known.length (w1.blocks.length+2) w1.blocks.length true w6 (w1.blocks.length+2)).trans p6
 have n8:=j9i pc (pk pc.c 2) w1.known.length (w1.blocks.length+2) w1.blocks.length true w6
 obtain⟨x,ex⟩:∃ x,x=jif pc (pk pc.c 2) w1.known.length (w1.blocks.length+2) w1.blocks.length true w6:=⟨_,rfl⟩
 rw[←ex] at l8 wk8 p8 n8
 have l9:=js4 (q:=x.1) (cls:=pk pc.c 2) (before:=w1.known.length) (e:=w1.blocks.length+2) (k:=w1.blocks.length+1) (lay:=decide (pk pc.flags 2=1)) (w:=x.2) oa
 have wk9:=wk8.way x.1 (pk pc.c 2) w1.known.length (w1.blocks.length+2) (w1.blocks.length+1) (decide (pk pc.flags 2=1)) oa
 have p9:=(j09 x.1 (pk pc.c 2) w1.known.length (w1.blocks.length+2) (w1.blocks.length+1) (decide (pk pc.flags 2=1)) x.2 (w1.blocks.length+2)).trans p8
 have n9:=j9i x.1 (pk pc.c 2) w1.known.length (w1.blocks.length+2) (w1.blocks.length+1) (decide (pk pc.flags 2=1)) x.2
 obtain⟨y,ey⟩:∃ y,y=jif x.1 (pk pc.c 2) w1.known.length (w1.blocks.length+2) (w1.blocks.length+1) (decide (pk pc.flags 2=1)) x.2:=⟨_,rfl⟩
 rw[←ey] at l9 wk9 p9 n9
 obtain⟨blk,hblk,hpar⟩:=f0a.1 p9
 have hfin:jfn w pc={ y.2 with cur:=w1.blocks.length+2,known:=y.2.known++blk.params }:=by
  have h1:jfn w pc={ y.2 with cur:=w1.blocks.length+2,known:=y.2.known++(y.2.blocks.getD (w1.blocks.length+2) ⟨[],[],[]⟩).params }:=by
   subst ey ex e6 e4 e1
   rfl
  rw[h1,f0p,hblk,f1l]
 rw[hfin]
 refine((wk9.setcur (j:=w1.blocks.length+2) oa).params (l:=blk.params) (fun v hv=>?_) (by rw[hpar];simp)).le oa
 rw[hpar] at hv
 have h1:=(f2r.1 hv).2
 have h2:w6.values.length=w1.values.length+2:=by rw[n6,n3]
 show v<y.2.values.length
 omega
theorem Wok.mloop {w:Ms} {N:Nat} (wk:Wok w N) (pc:Pc):Wok (jgl w pc) (N+100):=by
 have hl:=jew (n:=pc.c) (m:=2) oa
 have wk1:=wk.new (pk pc.c 2) pc
 obtain⟨v,ev⟩:∃ v,v=jac w (pk pc.c 2) pc:=⟨_,rfl⟩
 rw[←ev] at wk1
 have wk2:=wk1.new 0 pc
 obtain⟨u,eu⟩:∃ u,u=jac v.2 0 pc:=⟨_,rfl⟩
 rw[←eu] at wk2
 have wk3:=wk2.block [pk pc.c 2,0] se (by simp;omega)
 have b3:(jag u.2 [pk pc.c 2,0]).blocks.length=u.2.blocks.length+1:=by simp[jag]
 have p3:pr (jag u.2 [pk pc.c 2,0]) u.2.blocks.length=some (List.range' u.2.values.length 2):=by
  unfold pr jag
  simp
 have n3:(jag u.2 [pk pc.c 2,0]).values.length=u.2.values.length+2:=by simp[jag]
 generalize e3:jag u.2 [pk pc.c 2,0]=w3 at *
 have wk4:=wk3.edge w3.cur u.2.blocks.length [v.1,u.1]
 have g4:=jb4 w3 w3.cur u.2.blocks.length [v.1,u.1]
 have p4:=(jjf w3 w3.cur u.2.blocks.length [v.1,u.1] u.2.blocks.length).trans p3
 have n4:(jay w3 w3.cur u.2.blocks.length [v.1,u.1]).values=w3.values:=rfl
 generalize e4:jay w3 w3.cur u.2.blocks.length [v.1,u.1]=w4 at *
 obtain⟨blk,hblk,hpar⟩:=f0a.1 p4
 have wk5:=wk4.setcur (j:=u.2.blocks.length) oa
 have wk7:Wok { w4 with cur:=u.2.blocks.length,known:=w4.known++blk.params } _:=wk5.params (l:=blk.params) (fun v hv=>by
  rw[hpar] at hv
  have:=(f2r.1 hv).2
  show v<w4.values.length
  rw[n4,n3];exact this) (by rw[hpar];simp)
 obtain⟨w7,ew7⟩:∃ w7:Ms,w7={ w4 with cur:=u.2.blocks.length,known:=w4.known++blk.params }:=⟨_,rfl⟩
 rw[←ew7] at wk7
 have l7:w7.blocks.length=w4.blocks.length:=by rw[ew7]
 have wk9:=wk7.lay { pc with flags:=Ms.odd pc.flags }
 have g9:=jee w7 { pc with flags:=Ms.odd pc.flags }
 obtain⟨w9,e9⟩:∃ w9,w9=jcp w7 { pc with flags:=Ms.odd pc.flags }:=⟨_,rfl⟩
 rw[←e9] at wk9 g9
 have wkB:=(wk9.block [] se se).block [] se se
 have bB:(jag (jag w9 []) []).blocks.length=w9.blocks.length+2:=by simp[jag]
 generalize eB:jag (jag w9 []) []=wB at *
 have wkD:=(wkB.edge u.2.blocks.length w9.blocks.length []).edge u.2.blocks.length (w9.blocks.length+1) []
 have gC:=jb4 wB u.2.blocks.length w9.blocks.length []
 have gD:=jb4 (jay wB u.2.blocks.length w9.blocks.length []) u.2.blocks.length (w9.blocks.length+1) []
 obtain⟨wD,eD⟩:∃ wD,wD=jay (jay wB u.2.blocks.length w9.blocks.length []) u.2.blocks.length (w9.blocks.length+1) []:=⟨_,rfl⟩
 rw[←eD] at wkD gD
 have wkH:=(wkD.setcur (j:=w9.blocks.length) oa).lay (Zm pc)
 have gH:=jee { wD with cur:=w9.blocks.length } (Zm pc)
 have wkI:=wkH.new (pk pc.c 2) (Zm pc)
 have gI:=jc8 (jcp { wD with cur:=w9.blocks.length } (Zm pc)) (pk pc.c 2) (Zm pc)
 obtain⟨x,ex⟩:∃ x,x=jac (jcp { wD with cur:=w9.blocks.length } (Zm pc)) (pk pc.c 2) (Zm pc):=⟨_,rfl⟩
 rw[←ex] at wkI gI
 have wkJ:=wkI.new 0 (Zm pc)
 have gJ:=jc8 x.2 0 (Zm pc)
 obtain⟨y,ey⟩:∃ y,y=jac x.2 0 (Zm pc):=⟨_,rfl⟩
 rw[←ey] at wkJ gJ
 have wkK:=wkJ.edge w9.blocks.length u.2.blocks.length [x.1,y.1]
 have gK:=jb4 y.2 w9.blocks.length u.2.blocks.length [x.1,y.1]
 obtain⟨wK,eK⟩:∃ wK,wK=jay y.2 w9.blocks.length u.2.blocks.length [x.1,y.1]:=⟨_,rfl⟩
 rw[←eK] at wkK gK
 have hfin:jgl w pc={ wK with known:=wK.known.take w9.known.length,cur:=w9.blocks.length+1 }:=by
  have hp:(w4.blocks.getD u.2.blocks.length ⟨[],[],[]⟩).params=blk.params:=by rw[f0p,hblk,f1l]
  rw[←hp] at ew7
  subst eK ey ex eD eB e9 ew7 e4 e3 eu ev
  rfl
 rw[hfin]
 have lH:({ wD with cur:=w9.blocks.length }:Ms).blocks.length=w9.blocks.length+2:=by
  show wD.blocks.length=_
  rw[gD.2,gC.2,bB]
 exact((wkK.take (j:=w9.known.length)).setcur (j:=w9.blocks.length+1) (by show _<wK.blocks.length;rw[gK.2,gJ.2,gI.2,gH.2,lH];omega)).le oa
theorem Wok.piece {w:Ms} {N:Nat} (wk:Wok w N) (pc:Pc):Wok (jbs w pc) (N+100):=by
 unfold jbs
 simp only
 split
 .exact wk.fork pc
 .split
  .exact wk.mloop pc
  .split
   .exact (wk.lay pc).le oa
   .exact wk.le oa
theorem qf1 (w:Ms) (p:Pc):jbs w p=if pk p.kind 6=0/\j1b w=true then jfn w p else if pk p.kind 6=1/\j1b w=true then jgl w p else if jmt w=true then jcp w p else w:=by
 unfold jbs j1b jmt
 simp only[f05,decide_eq_true_eq]
structure LstE {α:Type} (enc:α->List SV) (size:Nat) (x:SV) (l:List α):Prop where
 len:jsn (.s x)=some (vi l.length)
 at_:∀ {i:Nat} {a:α},l[i]?=some a->jqo size (.s x) (vi (i:Int))=some (.s (.cp (enc a)))
 grd:grd x=true
theorem LstE.enc {α:Type} {enc:α->List SV} {l:List α} (hs:∀ a,(enc a).length=size):LstE enc size (jaf enc l) l:=⟨jah,fun h=>jaj h (hs _),jbd⟩
theorem LstE.emp {α:Type} {enc:α->List SV}:LstE enc size (.lst []) []:=⟨rfl,fun h=>by grind,rfl⟩
theorem j1d {h0:Hp} {p:Nat} {ns:List Nat} {L:List (Nat×AB)} (hpos:1<=h0.next) {l:List Pc} (pin:∀ q∈l,Pin q) (lx:LstE jb8 7 xl l) :
 ∀ (rest done:List Pc) (_:done++rest=l) (_:done.length<=24) {hi:Hp} {w:Ms} {ns':List Nat} (_:FS h0 hi p w ns L ns') (_:Wok w (100*done.length+10)) {x3 x4 x5 x6 x7 x8 x9:AV}
  (hQ:∀ hj ns'' x3 x4 x5 x6 x7 x8 x9 x10,FS h0 hj p ((rest.take (24 - done.length)).foldl jbs w) ns L ns''->Wok ((rest.take (24 - done.length)).foldl jbs w) 2500->Q (.exit 0) (.mk [x0,.s xl,x2,x3,x4,x5,x6,x7,x8,x9,x10,.s (.ptr p 0),x12] hj)),
  W F2 jig.loop (.mk [x0,.s xl,x2,x3,x4,x5,x6,x7,x8,x9,vi done.length,.s (.ptr p 0),x12] hi) Q
 | [],done,hdn,h24,hi,w,ns',K,wk,x3,x4,x5,x6,x7,x8,x9,hQ=>by
  rw[f06] at hdn
  subst hdn
  rw[jai]
  unfold jig
  have ll:=lx.len
  simp(disch:=rfl) only[go_sem,ll,f0s]
  exact hQ hi ns' _ _ _ _ _ _ _ _ (by simpa using K) (by simpa using wk.le oa)
 | pc::rest,done,hdn,h24,hi,w,ns',K,wk,x3,x4,x5,x6,x7,x8,x9,hQ=>by
  have ll:=lx.len
  have hlt1:done.length<l.length:=by rw[←hdn];simp
  have hlt:(done.length:Int)<l.length:=oa
  by_cases h9:(done.length:Int)<24
  .have hget:l[done.length]?=some pc:=by rw[←hdn];simp
   have pn:=pin pc (f0c hget)
   have hix:=lx.at_ hget
   have hdn':(done++[pc])++rest=l:=by rw[←hdn];simp
   have hlen2:(done++[pc]).length=done.length+1:=se
   have hsucc:((done.length:Int)+1)=(((done++[pc]).length:Nat):Int):=by rw[hlen2];omega
   have wkp:=wk.piece pc
   have fin:∀ hj ns'' x3 x4 x5 x6 x7 x8 x9,FS h0 hj p (jbs w pc) ns L ns''->W F2 jig.loop (.mk [x0,.s xl,x2,x3,x4,x5,x6,x7,x8,x9,vi (done++[pc]).length,.s (.ptr p 0),x12] hj) Q:=fun hj ns'' y3 y4 y5 y6 y7 y8 y9 KJ=>by
    have e:24 - done.length=(24 - (done++[pc]).length)+1:=by rw[hlen2];omega
    refine j1d hpos pin lx rest (done++[pc]) hdn' (by rw[hlen2];omega) KJ (wkp.le (by rw[hlen2];omega)) (fun hj' ns3 z3 z4 z5 z6 z7 z8 z9 z10 KZ wkz=>hQ hj' ns3 z3 z4 z5 z6 z7 z8 z9 z10 ?_ ?_)
    .rw [e,List.take_succ_cons,f25];exact KZ
    .rw [e,List.take_succ_cons,f25];exact wkz
   rw[jai]
   have ok:=K.ok
   have K1:=(K.push (a:=.arr Zb 90)).put (a':=.arr (jb8 pc) 90) (fun r hr=>by have:=(K.kp r hr).2.2.1;omega) hpos
   obtain⟨hA,eA⟩:∃ hA,(hi.push (AB.arr Zb 90)).put hi.next (some (.arr (jb8 pc) 90))=hA:=⟨_,rfl⟩
   rw[eA] at K1
   have okA:=K1.ok
   have hxA:=(K1.kp _ (f1a ..)).1
   have hcur:=wk.cur
   have hnb:=wk.nb
   have hk6:=jew (n:=pc.kind) (m:=6) oa
   obtain⟨bx,ebx⟩:∃ bx,hi.next=bx:=⟨_,rfl⟩
   rw[ebx] at K1 hxA eA
   have pe:=qf1 w pc
   obtain⟨⟨q1,q2⟩,⟨q3,q4⟩,⟨q5,q6⟩,⟨q7,q8⟩,⟨q9,q10⟩,⟨q11,q12⟩,⟨q13,q14⟩⟩:=id pn
   unfold jb8 at hxA eA
   unfold jig
   simp(disch:=go_num) only[go_sem,ll,eq_true hlt,eq_true h9]
   unfold j1a
   simp(disch:=go_num) only[go_sem,hix,jb8,ebx,eA]
   refine qm6 K1 hcur oa ?_
   have drop:∀ r∈L,r∈(bx,AB.arr (jb8 pc) 90)::L:=fun r hr=>f01 _ hr
   by_cases hr:j1b w=true
   .by_cases hz:((pk pc.kind 6:Nat):Int)=0
    .have hp:jbs w pc=jfn w pc:=by rw[pe,if_pos ⟨oa,hr⟩]
     simp(disch:=go_num) only[go_sem,jfo,jfp,jfq,jfr,jfs,jbx,jao,jal,jbe jhw,hxA,hr,eq_true hz]
     refine WC.imp (qm5 K1.ok K1.mr wk oa pc pn) ?_
     rintro _ h2 ⟨rfl,ns2,m2,v2⟩
     have K2:=K1.step m2 v2
     simp(disch:=go_num) only[go_sem,jad,hsucc]
     rw[←hp] at K2
     exact fin h2 ns2 _ _ _ _ _ _ _ (K2.sub drop)
    .by_cases ho:((pk pc.kind 6:Nat):Int)=1
     .have hp:jbs w pc=jgl w pc:=by rw[pe,if_neg (fun e=>hz oa),if_pos ⟨oa,hr⟩]
      simp(disch:=go_num) only[go_sem,jfo,jfp,jfq,jfr,jfs,jbx,jao,jal,jbe jhw,hxA,hr,eq_false hz,eq_true ho]
      refine WC.imp (qf0 K1.ok K1.mr wk oa pc pn) ?_
      rintro _ h2 ⟨rfl,ns2,m2,v2⟩
      have K2:=K1.step m2 v2
      simp(disch:=go_num) only[go_sem,jad,hsucc]
      rw[←hp] at K2
      exact fin h2 ns2 _ _ _ _ _ _ _ (K2.sub drop)
     .have n1:¬ (pk pc.kind 6=0/\j1b w=true):=fun e=>hz oa
      have n2:¬ (pk pc.kind 6=1/\j1b w=true):=fun e=>ho oa
      simp(disch:=go_num) only[go_sem,jfo,jfp,jfq,jfr,jfs,jbx,jao,jal,jbe jhw,hxA,hr,eq_false hz,eq_false ho]
      refine jna K1 hcur ?_
      by_cases h2:jmt w=true
      .have hp:jbs w pc=jcp w pc:=by rw[pe,if_neg n1,if_neg n2,if_pos h2]
       rw[h2]
       simp(disch:=go_num) only[go_sem,hxA]
       refine WC.imp (jiz K1 wk oa (pc:=pc) pn) ?_
       rintro _ h2 ⟨rfl,ns2,K2⟩
       simp(disch:=go_num) only[go_sem,jad,hsucc]
       rw[←hp] at K2
       exact fin h2 ns2 _ _ _ _ _ _ _ (K2.sub drop)
      .have hp:jbs w pc=w:=by rw[pe,if_neg n1,if_neg n2,if_neg h2]
       have h2':jmt w=false:=by simpa using h2
       rw[h2']
       simp(disch:=go_num) only[go_sem,jad,hsucc]
       have K1':=K1
       rw[←hp] at K1'
       exact fin hA ns' _ _ _ _ _ _ _ (K1'.sub drop)
   .have n1:¬ (pk pc.kind 6=0/\j1b w=true):=fun e=>hr e.2
    have n2:¬ (pk pc.kind 6=1/\j1b w=true):=fun e=>hr e.2
    have hr:j1b w=false:=by simpa using hr
    by_cases hz:((pk pc.kind 6:Nat):Int)=0
    .have ho:¬ ((pk pc.kind 6:Nat):Int)=1:=oa
     simp(disch:=go_num) only[go_sem,jfo,jfp,jfq,jfr,jfs,jbx,jao,jal,jbe jhw,hxA,hr,eq_true hz,eq_false ho,Int.reduceEq]
     refine jna K1 hcur ?_
     by_cases h2:jmt w=true
     .have hp:jbs w pc=jcp w pc:=by rw[pe,if_neg n1,if_neg n2,if_pos h2]
      rw[h2]
      simp(disch:=go_num) only[go_sem,hxA]
      refine WC.imp (jiz K1 wk oa (pc:=pc) pn) ?_
      rintro _ h2 ⟨rfl,ns2,K2⟩
      simp(disch:=go_num) only[go_sem,jad,hsucc]
      rw[←hp] at K2
      exact fin h2 ns2 _ _ _ _ _ _ _ (K2.sub drop)
     .have hp:jbs w pc=w:=by rw[pe,if_neg n1,if_neg n2,if_neg h2]
      have h2':jmt w=false:=by simpa using h2
      rw[h2']
      simp(disch:=go_num) only[go_sem,jad,hsucc]
      have K1':=K1
      rw[←hp] at K1'
      exact fin hA ns' _ _ _ _ _ _ _ (K1'.sub drop)
    .by_cases ho:((pk pc.kind 6:Nat):Int)=1
     .skip
      simp(disch:=go_num) only[go_sem,jfo,jfp,jfq,jfr,jfs,jbx,jao,jal,jbe jhw,hxA,hr,eq_false hz,eq_true ho]
      refine jna K1 hcur ?_
      by_cases h2:jmt w=true
      .have hp:jbs w pc=jcp w pc:=by rw[pe,if_neg n1,if_neg n2,if_pos h2]
       rw[h2]
       simp(disch:=go_num) only[go_sem,hxA]
       refine WC.imp (jiz K1 wk oa (pc:=pc) pn) ?_
       rintro _ h2 ⟨rfl,ns2,K2⟩
       simp(disch:=go_num) only[go_sem,jad,hsucc]
       rw[←hp] at K2
       exact fin h2 ns2 _ _ _ _ _ _ _ (K2.sub drop)
      .have hp:jbs w pc=w:=by rw[pe,if_neg n1,if_neg n2,if_neg h2]
       have h2':jmt w=false:=by simpa using h2
       rw[h2']
       simp(disch:=go_num) only[go_sem,jad,hsucc]
       have K1':=K1
       rw[←hp] at K1'
       exact fin hA ns' _ _ _ _ _ _ _ (K1'.sub drop)
     .skip
      simp(disch:=go_num) only[go_sem,jfo,jfp,jfq,jfr,jfs,jbx,jao,jal,jbe jhw,hxA,hr,eq_false hz,eq_false ho]
      refine jna K1 hcur ?_
      by_cases h2:jmt w=true
      .have hp:jbs w pc=jcp w pc:=by rw[pe,if_neg n1,if_neg n2,if_pos h2]
       rw[h2]
       simp(disch:=go_num) only[go_sem,hxA]
       refine WC.imp (jiz K1 wk oa (pc:=pc) pn) ?_
       rintro _ h2 ⟨rfl,ns2,K2⟩
       simp(disch:=go_num) only[go_sem,jad,hsucc]
       rw[←hp] at K2
       exact fin h2 ns2 _ _ _ _ _ _ _ (K2.sub drop)
      .have hp:jbs w pc=w:=by rw[pe,if_neg n1,if_neg n2,if_neg h2]
       have h2':jmt w=false:=by simpa using h2
       rw[h2']
       simp(disch:=go_num) only[go_sem,jad,hsucc]
       have K1':=K1
       rw[←hp] at K1'
       exact fin hA ns' _ _ _ _ _ _ _ (K1'.sub drop)
  .have h24':24 - done.length=0:=oa
   rw[jai]
   unfold jig
   simp(disch:=go_num) only[go_sem,ll,eq_true hlt,eq_false h9]
   exact hQ hi ns' _ _ _ _ _ _ _ _ (by rw[h24'];exact K) (by rw[h24'];exact wk.le oa)
section
variable {k:Bool} {h:Hp} {d:Nat}
theorem EI.frz {row:List SV} {n:Nat} {ms:List Nat} (e:EI row n ms):jgb (jfl k h (d+1)) row=some (jav n):=by
 obtain⟨rfl,rfl⟩:=e;rfl
theorem EO.frz {row:List SV} {n:Ms.Opd} {ms:List Nat} (e:EO row n ms):jgb (jfl k h (d+1)) row=some (jbc n):=by
 obtain⟨rfl,rfl⟩:=e;rfl
theorem ER.frz {row:List SV} {n:Nat×Nat} {ms:List Nat} (e:ER row n ms):jgb (jfl k h (d+1)) row=some (jcq n):=by
 obtain⟨rfl,rfl⟩:=e;rfl
theorem EX.frz {row:List SV} {x:Ms.Ins} {ms:List Nat} (e:EX tt h row x ms):jgb (jfl k h (d+2)) row=some (jdd x):=by
 obtain⟨a,b,n1,n2,rfl,h1,h2,rfl⟩:=e
 exact jau rfl (jau (h1.frz (fun _ _ _ e=>EO.frz e) (fun _=>rfl)) (jau (h2.frz (fun _ _ _ e=>ER.frz e) (fun _=>rfl)) rfl))
theorem EE.frz {row:List SV} {x:Ms.Edg} {ms:List Nat} (e:EE tt h row x ms):jgb (jfl k h (d+2)) row=some (jeo x):=by
 obtain⟨a,rfl,h1⟩:=e
 exact jau rfl (jau (h1.frz (fun _ _ _ e=>EI.frz e) (fun _=>rfl)) rfl)
theorem EB.frz {row:List SV} {x:Ms.Blk} {ms:List Nat} (e:EB tt h row x ms):jgb (jfl k h (d+3)) row=some (ja6 x):=by
 obtain⟨p,i,e,n1,n2,n3,rfl,h1,h2,h3,rfl⟩:=e
 exact jau (h1.frz (fun _ _ _ e=>EI.frz e) (fun _=>rfl)) (jau (h2.frz (fun _ _ _ e=>EX.frz e) (fun _=>rfl)) (jau (h3.frz (fun _ _ _ e=>EE.frz e) (fun _=>rfl)) rfl))
theorem qf2 {w:Ms} {a b:SV} {n1:List Nat} (h1:Sl h tt.int 1 false EI a w.values n1) (h2:Sl h tt.blk 3 false (EB tt h) b w.blocks n2):jf9 k h 4 (.agg [a,b])=some (.agg (qp1 ⟨w.values,w.blocks⟩)) :=
 jaa.2 ⟨_,jau (h1.frz (fun _ _ _ e=>EI.frz e) (fun _=>rfl)) (jau (h2.frz (fun _ _ _ e=>EB.frz e) (fun _=>rfl)) rfl),rfl⟩
end
theorem qf3 {h:Hp} (ok:Ok h) {m:Nat×Nat} {l:List Pc} (m1:2<=m.1/\m.1<=10) (m2:2<=m.2/\m.2<=10) (pin:∀ q∈l,Pin q) (lx:LstE jb8 7 xl l):WC F2 18 [.agg [si m.1,si m.2],.s xl] h (fun v h'=>∃ d,jf9 true h' d v=some (.agg (qp1 (jev m l)))):=by
 refine jaz (no2 rfl rfl) qss rfl ?_
 unfold j9g
 have hpos:=ok.pos
 obtain⟨hA,eA⟩:∃ hA,(h.push (AB.arr [si m.1,si m.2] 28)).push (AB.arr Zj 32)=hA:=⟨_,rfl⟩
 have okA:Ok hA:=by rw[←eA];exact ja9 (ja9 ok)
 have nA:hA.next=h.next+2:=by rw[←eA];rfl
 have xA:hA.get h.next=some (AB.arr [si m.1,si m.2] 28):=by rw[←eA,ja3 (ja9 ok),if_neg (by rw[Hp.next_push];omega),ja3 ok,if_pos rfl]
 have yA:hA.get (h.next+1)=some (AB.arr Zj 32):=by rw[←eA,ja3 (ja9 ok),if_pos (by rw[Hp.next_push])]
 obtain⟨hB,eB⟩:∃ hB,hA.push (AB.arr [si m.1,si m.2,.nilSlice,.nilSlice,.int .i64 0,.nilSlice,.int .i64 0] 87)=hB:=⟨_,rfl⟩
 have okB:Ok hB:=by rw[←eB];exact ja9 okA
 have nB:hB.next=h.next+3:=by rw[←eB,Hp.next_push,nA]
 have pB:hB.get (h.next+2)=some (AB.arr [si m.1,si m.2,.nilSlice,.nilSlice,.int .i64 0,.nilSlice,.int .i64 0] 87):=by rw[←eB,ja3 okA,if_pos nA.symm]
 have yB:hB.get (h.next+1)=some (AB.arr Zj 32):=by rw[←eB,ja3 okA,if_neg oa];exact yA
 have mrB:MR tt hB (h.next+2) ⟨m,[],[],0,[],0⟩ [h.next+2]:=⟨⟨_,_,_,[],[],[],pB,Sl.nil,Sl.nil,Sl.nil,rfl⟩,se,fun n hn=>by simp at hn;omega⟩
 simp(disch:=go_num) only[go_sem,eA,xA,nA,eB]
 refine WC.imp (js1 okB mrB (N:=10) se se oa (cs:=[]) (nsx:=[]) Sl.nil se se se) ?_
 rintro _ h1 ⟨rfl,ns1,mr1,mv1⟩
 have K1:FS hB h1 (h.next+2) (jb7 m) [h.next+2] [] ns1:=⟨mv1.ok,mr1,mv1,se⟩
 have wk1:Wok (jb7 m) 10:=⟨m1,m2,by simp[jb7],by simp[jb7],by simp[jb7],by simp[jb7],by simp[jb7],by simp[jb7],by simp[jb7],by simp[jb7]⟩
 simp(disch:=go_num) only[go_sem]
 refine j1d oa pin lx l [] rfl se K1 (wk1.le se) ?_
 intro h2 ns2 x3 x4 x5 x6 x7 x8 x9 x10 K2 wk2
 have e24:24 - ([]:List Pc).length=24:=rfl
 rw[e24] at K2 wk2
 have ok2:=K2.ok
 simp(disch:=go_num) only[go_sem]
 refine WC.imp (jiz K2 wk2 oa (pc:=⟨0,0,1,0,0,0,3⟩) ⟨by decide,by decide,by decide,by decide,by decide,by decide,by decide⟩) ?_
 rintro _ h3 ⟨rfl,ns3,K3⟩
 have y3:h3.get (h.next+1)=_:=(K3.mv.keep (h.next+1) oa se).trans yB
 have ok3:=K3.ok
 obtain⟨⟨a,b,c,n1,n2,n3,hg,hv,hb,hk,e⟩,hd,hlt⟩:=K3.mr
 simp(disch:=go_num) only[go_sem,hg,y3]
 refine⟨4,?_⟩
 have kp:∀ n∈n1++n2,(h3.put (h.next+1) (some (AB.arr [a,b] 32))).get n=h3.get n:=fun n hn=>by
  rw[jak ok3 oa,if_neg (fun e2=>?_)]
  have hm:n∈ns3:=by rw[e];rcases f0e.1 hn with h | h<;>simp[h]
  rcases K3.mv.new n hm with h4 | h4
  .simp at h4;omega
  .omega
 exact qf2 (w:=jcp ((l.take 24).foldl jbs (jb7 m)) ⟨0,0,1,0,0,0,3⟩) (hv.keep (fun n hn=>kp n (by simp[hn]))) (hb.imp (fun n hn=>kp n (by simp[hn])) (fun row a ms hm k=>k.keep (fun n hn=>kp n (by simp[hm n hn]))))
def js7 (a b:Int):Nat×Nat:=(2+pk a 9,2+pk b 9)
def qp2 (m:Nat×Nat):List SV:=[si m.1,si m.2]
def In6 (a:Int):Prop:=-9223372036854775808<=a/\a<=9223372036854775807
theorem qm7 (a b:Int):(2<=(js7 a b).1/\(js7 a b).1<=10)/\(2<=(js7 a b).2/\(js7 a b).2<=10):=by
 have h1:=jew (n:=a) (m:=9) oa
 have h2:=jew (n:=b) (m:=9) oa
 unfold js7;simp only;omega
theorem jzd {h:Hp} (ok:Ok h) {a b:Int} (ha:In6 a) (hb:In6 b):WC F2 17 [vi a,vi b] h (fun v h'=>∃ d,jf9 true h' d v=some (.agg (qp2 (js7 a b)))):=by
 refine jaz (no2 rfl rfl) j82 rfl ?_
 unfold jrj
 have hpos:=ok.pos
 obtain⟨a1,a2⟩:=ha
 obtain⟨b1,b2⟩:=hb
 have h1:=jew (n:=a) (m:=9) oa
 have h2:=jew (n:=b) (m:=9) oa
 have e1:2+((pk a 9:Nat):Int)=((2+pk a 9:Nat):Int):=oa
 have e2:2+((pk b 9:Nat):Int)=((2+pk b 9:Nat):Int):=oa
 simp(disch:=go_num) only[go_sem,jfo,jfp,jfq,jfr,jfs,jbx,jao,jal,jbe jhw,jad,e1,e2]
 exact⟨1,rfl⟩
theorem jwq {cells:List SV} {ty i:Nat} {c:SV} (h:cells[i]?=some c):rdB (some (.arr cells ty)) i 1=some [c]:=by
 have hi:i<cells.length:=by
  rcases f0n i cells.length with h1 | h1
  .exact h1
  .rw [f0y h1] at h;cases h
 rw[f0b hi] at h
 rw[jhs,jcb,f0w hi,Option.some.inj h]
 rfl
def S3 (f:FuncId):Bool:=Nat.beq f 18||(Nat.beq f 17||Nat.beq f 999999)
def F3:Fns:=PX S3 F2
theorem q4v {A:Nat->Int}:Env Tryz.prog A tys F3:=jer q4t
theorem qm8 {h:Hp} {m:Nat×Nat} {l:List Pc} (m1:2<=m.1/\m.1<=10) (m2:2<=m.2/\m.2<=10) (pin:∀ q∈l,Pin q) (lx:LstE jb8 7 xl l):jc1 F3 18 [.agg (qp2 m),.s xl] h=some (.agg (qp1 (jev m l)),h) :=
 jbg rfl (by show oif true (oif (grd xl) true false) false=true;rw[lx.grd];rfl) (qf3 jdv m1 m2 pin lx)
theorem j5s {h:Hp} {a b:Int} (ha:In6 a) (hb:In6 b):jc1 F3 17 [vi a,vi b] h=some (.agg (qp2 (js7 a b)),h) :=
 jbg rfl rfl (jzd jdv ha hb)
theorem no3 {f:FuncId} (h1:S1 f=false) (h2:Nat.beq f jgm.f=false) (h3:S3 f=false) {vs:List AV} {h:Hp}:jc1 F3 f vs h=none:=(ja0 h3).trans (no2 h1 h2)
end
end Go.Proofs.YtkpadfebkaangaaGreatDoor.Ev
