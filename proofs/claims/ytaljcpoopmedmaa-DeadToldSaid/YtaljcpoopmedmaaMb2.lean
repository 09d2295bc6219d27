/- The builders of functions: an edge more. -/
import Derived.Test.YtaljcpoopmedmaaMa10
import Derived.Test.YtaljcpoopmedmaaWb
import Derived.Test.YtaljcpoopmedmaaEnvX
namespace Go.Proofs.Ytaljcpoopmedmaa.Ev
open Go Go.RowKit Go.Proofs.Ytaljcpoopmedmaa.Ms
attribute [local go_sem] Int.cast_ofNat_Int Int.natCast_zero Int.natCast_one decide_eq_true_eq decide_eq_false_iff_not Bool.false_eq_true and_true true_and List.cons_append List.nil_append reduceCtorEq decide_true decide_false Bool.not_true Bool.not_false Nat.add_zero Nat.zero_add Option.some.injEq Bool.true_eq_false not_true_eq_false not_false_eq_true Hp.next_push Hp.next_put Nat.add_assoc Int.reduceToNat Nat.reduceAdd Nat.reduceMul Nat.reduceEqDiff Int.reduceEq Int.reduceLT Int.reduceLE Int.reduceNeg Int.reduceAdd Int.reduceSub Int.reduceMul Int.reduceNe
attribute [local go_sem ↓] reduceIte
set_option linter.all false
set_option maxRecDepth 100000
set_option maxHeartbeats 2000000
theorem Wok.edge {w:Ms} {N:Nat} (wk:Wok w N) (k to:Nat) (args:List Nat):Wok (jaw w k to args) (N+1):=by
 unfold jaw
 refine ⟨wk.m1,wk.m2,wk.vals,wk.known,by show w.cur<(w.blocks.modify k _).length;rw [List.length_modify];exact wk.cur,Nat.le_succ_of_le wk.nv,by show (w.blocks.modify k _).length<=_;rw [List.length_modify];exact Nat.le_succ_of_le wk.nb,Nat.le_succ_of_le wk.nk,fun b hb=>?_,Nat.le_succ_of_le wk.na⟩
 have hb':b∈w.blocks.modify k (fun b=>{ b with edges:=b.edges++[⟨to,args⟩] }):=hb
 rcases Nat.lt_or_ge k w.blocks.length with h1 | h1
 ·rw [jc5 (List.getElem?_eq_getElem h1)] at hb'
  rcases List.mem_or_eq_of_mem_set hb' with h | rfl
  ·have:=wk.ni b h;omega
  ·have:=wk.ni _ (List.getElem_mem h1)
   simp only [List.length_append,List.length_singleton];omega
 ·rw [List.modify_eq_self h1] at hb'
  have:=wk.ni b hb';omega
section
variable {F:Fns} (B:Base F)
include B
theorem j58 {h2:Hp} {p:Nat} {w2:Ms} {ns:List Nat} (ok2:Ok h2) (mr2:MR tt h2 p w2 ns) {N:Nat} (wk2:Wok w2 N) (hN:N<=80000) {kk to:Nat} {args:List Nat} {sa:SV} {n1:List Nat} (hkk:kk<w2.blocks.length) (hsa:Sl h2 3 1 true EI sa args n1) (nd1:n1.Nodup) (lo1:∀ n∈n1,1<=n/\n<h2.next/\n∉ns) :
 WC F 48 [.s (.ptr p 0),vi kk,vi to,.s sa] h2 (fun v h'=>v=.tup []/\∃ ns',MR tt h' p (jaw w2 kk to args) ns'/\Mv h2 h' (ns++n1) ns'):=by
 refine ja9 (B.no 48 (by simp) _ _) ((B.T _).trans qds) rfl ?_
 unfold jz9
 obtain ⟨⟨av,bv,kv,m1,m2,m3,hg,hv,hb,hk,rfl⟩,hd,hlt⟩:=mr2
 have hp:=hlt p (by simp)
 obtain ⟨blk,hblk⟩:∃ b,w2.blocks[kk]?=some b:=⟨_,List.getElem?_eq_getElem hkk⟩
 have hni:=wk2.ni blk (List.mem_of_getElem? hblk)
 obtain ⟨bb,row,ms,M1,M2,cells,ix,hbg,hrd,hrl,⟨pp,ia,ee,na,nb,nc,rfl,sp,sI,sE,rfl⟩,rfl,hset⟩:=hb.upd hblk
 have rd1:=jgt (j:=2) (c:=ee) hrd rfl
 have hbb:=hlt bb (by simp)
 obtain ⟨cells',hst,hset'⟩:=hset (j:=2) (v:=SV.slice (h2.next+1) 0 (blk.edges.length+1) (blk.edges.length+1) false 2) (by omega)
 have lt':=fun n hn=>(hlt n hn).2
 have sub_nc:∀ n∈nc,n∈p::(m1++(bb::(M1++(na++(nb++nc)++M2))++m3)):=fun n hn=>by simp [hn]
 have hdt:=(List.nodup_cons.1 hd).2
 have e0:m1++(bb::(M1++(na++(nb++nc)++M2))++m3)=(m1++(bb::(M1++(na++nb))))++(nc++(M2++m3)):=by simp [List.append_assoc]
 have hpb:p≠bb:=fun e=>(List.nodup_cons.1 hd).1 (by simp [e])
 have hpn:p∉nc:=fun e=>(List.nodup_cons.1 hd).1 (by simp [e])
 rw [e0] at hdt
 have hd3:=List.nodup_append.1 hdt
 have hdnc:=(List.nodup_append.1 hd3.2.1).1
 have hbn:bb∉nc:=fun e=>hd3.2.2 bb (by simp) bb (by simp [e]) rfl
 have hsa':Sl h2 tt.int 1 true EI sa args n1:=hsa
 have hEE:EE tt h2 [si to,sa] (Ms.Edg.mk to args) n1:=⟨sa,rfl,hsa'⟩
 obtain ⟨h4,e4,ok4,n4,kp4,kt4,sl4⟩:=sE.app1 (E:=EE tt h2) (bytes:=32) (row:=[si to,sa]) (a:=Ms.Edg.mk to args) (ms:=n1) ok2 (fun n hn=>hlt n (sub_nc n hn)) rfl hEE (by omega) (by omega)
 have e4':jjk (h2.push (AB.arr [si to,sa] 51)) 51 2 32 (AV.s ee) (AV.s (SV.slice h2.next 0 1 1 true 2))=some (AV.s (SV.slice (h2.next+1) 0 (blk.edges.length+1) (blk.edges.length+1) false 2),h4):=e4
 have p4:h4.get p=_:=(kp4 p hp.2 hpn).trans hg
 have b4:h4.get bb=_:=(kp4 bb hbb.2 hbn).trans hbg
 simp (disch:=first|omega|simp only[List.length]|apply_rules[jaa,jac,jad]) only [go_sem,jjl,jdj,jdk,jjm,jjn,and_false,false_and,if_false,hg,ix,rd1,e4',b4,hst,p4]
 obtain ⟨h5,e5⟩:∃ h5,h5=h4.put bb (some (AB.arr cells' tt.blk)):=⟨_,rfl⟩
 rw [←e5]
 have ok5:Ok h5:=by rw [e5];exact jad ok4
 have g5:∀ n,n≠bb->h5.get n=h4.get n:=fun n hn=>by rw [e5,jai ok4 hbb.1,if_neg hn]
 have b5:h5.get bb=some (AB.arr cells' tt.blk):=by rw [e5,jai ok4 hbb.1,if_pos rfl]
 have n5:h5.next=h2.next+2:=by rw [e5,Hp.next_put,n4]
 clear e5
 have k5:∀ n,n<h2.next->n∉nc->n≠bb->h5.get n=h2.get n:=fun n h1 h3' h4'=>(g5 n h4').trans (kp4 n h1 h3')
 have q1:∀ n∈n1,n∉nc/\n≠bb:=fun n hn=>⟨fun h1=>(lo1 n hn).2.2 (sub_nc n h1),fun h1=>(lo1 n hn).2.2 (by simp [h1])⟩
 have qA:∀ n∈m1++(bb::(M1++(na++nb))),n∉nc:=fun n hn h1=>hd3.2.2 n hn n (by simp [h1]) rfl
 have hd4:=List.nodup_append.1 hd3.2.1
 have qB:∀ n∈M2++m3,n∉nc:=fun n hn h1=>hd4.2.2 n h1 n hn rfl
 have hd5:=List.nodup_append.1 hd3.1
 have hd6:=List.nodup_cons.1 hd5.2.1
 have b1:∀ n∈m1,n≠bb:=fun n hn e=>hd5.2.2 n hn bb (by simp) e
 have b2:∀ n∈M1++(na++nb),n≠bb:=fun n hn e=>hd6.1 (e▸hn)
 have b3:∀ n∈nc++(M2++m3),n≠bb:=fun n hn e=>hd3.2.2 bb (by simp) n hn e.symm
 have K:∀ n,n∈m1∨n∈M1∨n∈na∨n∈nb∨n∈M2∨n∈m3->h5.get n=h2.get n:=fun n hn=>by
  refine k5 n (lt' n ?_) ?_ ?_
  ·rcases hn with h | h | h | h | h | h<;>simp [h]
  ·rcases hn with h | h | h | h | h | h
   ·exact qA n (by simp [h])
   ·exact qA n (by simp [h])
   ·exact qA n (by simp [h])
   ·exact qA n (by simp [h])
   ·exact qB n (by simp [h])
   ·exact qB n (by simp [h])
  ·rcases hn with h | h | h | h | h | h
   ·exact b1 n h
   ·exact b2 n (by simp [h])
   ·exact b2 n (by simp [h])
   ·exact b2 n (by simp [h])
   ·exact b3 n (by simp [h])
   ·exact b3 n (by simp [h])
 have T:∀ n∈nc.tail,h5.get n=h2.get n:=fun n hn=>(g5 n (b3 n (by simp [List.mem_of_mem_tail hn]))).trans (kt4 n hn hdnc)
 have X1:∀ n∈n1,h5.get n=h2.get n:=fun n hn=>k5 n (lo1 n hn).2.1 (q1 n hn).1 (q1 n hn).2
 have sE5:Sl h5 tt.edg 2 false (EE tt h5) (SV.slice (h2.next+1) 0 (blk.edges.length+1) (blk.edges.length+1) false 2) (blk.edges++[⟨to,args⟩]) ((h2.next+1)::(nc.tail++n1)):=by
  have:=sl4 (E':=EE tt h5) (fun row a m hm k=>k.keep (fun n hn=>by
   rcases hm n hn with h1 | h1
   ·exact T n h1
   ·exact X1 n h1))
  refine this.keep (fun n hn=>g5 n ?_)
  rcases List.mem_cons.1 hn with rfl | hn
  ·omega
  ·rcases List.mem_append.1 hn with hn | hn
   ·exact b3 n (by simp [List.mem_of_mem_tail hn])
   ·exact (q1 n hn).2
 have sB:=hset' (h':=h5) (E':=EB tt h5) (a':={ blk with edges:=blk.edges++[⟨to,args⟩] }) (ms':=na++(nb++((h2.next+1)::(nc.tail++n1)))) b5 ⟨pp,ia,_,na,nb,_,rfl,sp.keep (fun n hn=>K n (by simp [hn])),sI.imp (fun n hn=>K n (by simp [hn])) (fun row a ms hm k=>k.keep (fun n hn=>K n (by simp [hm n hn]))),sE5,rfl⟩ (fun row a m hm k=>k.keep (fun n hn=>by
  rcases List.mem_append.1 (hm n hn) with h | h
  ·exact K n (by simp [h])
  ·exact K n (by simp [h])))
 have hmod:(jaw w2 kk to args).blocks=w2.blocks.set kk { blk with edges:=blk.edges++[⟨to,args⟩] }:=by
  unfold jaw;exact jc5 hblk
 rw [←hmod] at sB
 have hnk:(h2.next+1)∉nc/\(h2.next+1)∉n1:=⟨fun h1=>by have:=lt' _ (sub_nc _ h1);omega,fun h1=>by have:=(lo1 _ h1).2.1;omega⟩
 have nd5:((h2.next+1)::(nc.tail++n1)).Nodup:=jb2 hdnc nd1 (fun n hn=>(q1 n hn).1) hnk.1 hnk.2
 have e6:m1++(bb::(M1++(na++(nb++((h2.next+1)::(nc.tail++n1)))++M2))++m3)=(m1++(bb::(M1++(na++nb))))++(((h2.next+1)::(nc.tail++n1))++(M2++m3)):=by simp [List.append_assoc]
 have old:∀ n,n∈(m1++(bb::(M1++(na++nb))))++(nc++(M2++m3))->n∈p::(m1++(bb::(M1++(na++(nb++nc)++M2))++m3)):=fun n hn=>by
  rw [←e0] at hn;exact List.mem_cons_of_mem _ hn
 have hn6:∀ n∈(m1++(bb::(M1++(na++nb))))++(((h2.next+1)::(nc.tail++n1))++(M2++m3)),n∈p::(m1++(bb::(M1++(na++(nb++nc)++M2))++m3))∨n=h2.next+1∨n∈n1:=fun n hn=>by
  rcases List.mem_append.1 hn with hn | hn
  ·exact .inl (old n (List.mem_append_left _ hn))
  ·rcases List.mem_append.1 hn with hn | hn
   ·rcases List.mem_cons.1 hn with rfl | hn
    ·exact .inr (.inl rfl)
    ·rcases List.mem_append.1 hn with hn | hn
     ·exact .inl (sub_nc n (List.mem_of_mem_tail hn))
     ·exact .inr (.inr hn)
   ·exact .inl (old n (List.mem_append_right _ (List.mem_append_right _ hn)))
 have nd6:(p::(m1++(bb::(M1++(na++(nb++((h2.next+1)::(nc.tail++n1)))++M2))++m3))).Nodup:=by
  rw [List.nodup_cons]
  refine ⟨fun h1=>?_,?_⟩
  ·rw [e6] at h1
   rcases List.mem_append.1 h1 with h1 | h1
   ·exact (List.nodup_cons.1 hd).1 (by rw [e0];exact List.mem_append_left _ h1)
   ·rcases List.mem_append.1 h1 with h1 | h1
    ·rcases List.mem_cons.1 h1 with h1 | h1
     ·omega
     ·rcases List.mem_append.1 h1 with h1 | h1
      ·exact hpn (List.mem_of_mem_tail h1)
      ·exact (lo1 p h1).2.2 (by simp)
    ·exact (List.nodup_cons.1 hd).1 (by rw [e0];exact List.mem_append_right _ (List.mem_append_right _ h1))
  ·rw [e6]
   refine jg9 hdt nd5 (fun n hn=>?_)
   rcases List.mem_cons.1 hn with rfl | hn
   ·exact .inr (fun h1=>by have:=lt' _ (old _ h1);omega)
   ·rcases List.mem_append.1 hn with hn | hn
    ·exact .inl (List.mem_of_mem_tail hn)
    ·exact .inr (fun h1=>(lo1 n hn).2.2 (old n h1))
 have lt6:∀ n∈p::(m1++(bb::(M1++(na++(nb++((h2.next+1)::(nc.tail++n1)))++M2))++m3)),1<=n/\n<h5.next:=fun n hn=>by
  rcases List.mem_cons.1 hn with rfl | hn
  ·omega
  ·rw [e6] at hn
   rcases hn6 n hn with h1 | h1 | h1
   ·have:=hlt n h1;omega
   ·omega
   ·have:=lo1 n h1;omega
 refine ⟨_,⟨⟨av,bv,kv,m1,_,m3,(g5 p hpb).trans p4,hv.keep (fun n hn=>K n (by simp [hn])),sB,hk.keep (fun n hn=>K n (by simp [hn])),rfl⟩,nd6,lt6⟩,⟨ok5,by omega,fun n hn=>?_,fun n h1 h3'=>?_⟩⟩
 ·have hn':n∈p::(m1++(bb::(M1++(na++(nb++nc)++M2))++m3))∨n=h2.next+1∨n∈n1:=by
   rcases List.mem_cons.1 hn with rfl | hn
   ·exact .inl (by simp)
   ·rw [e6] at hn;exact hn6 n hn
  rcases hn' with h1 | h1 | h1
  ·have:=List.mem_append_left n1 h1
   exact .inl this
  ·exact .inr (by omega)
  ·exact .inl (by simp [h1])
 ·have hno:n∉p::(m1++(bb::(M1++(na++(nb++nc)++M2))++m3)):=fun h4'=>h3' (by have:=List.mem_append_left n1 h4';exact this)
  exact k5 n h1 (fun h4'=>hno (sub_nc n h4')) (fun e=>hno (by simp [e]))
end
theorem qaa {p:Pc} {flags uses i:Nat} {x:Iw×Nat×Ms}:∃ o∈(jew p flags uses i x).1.ops,o.kind=2:=by
 unfold jew
 simp only
 split<;>exact ⟨_,List.mem_append_right _ (List.mem_singleton.2 rfl),rfl⟩
theorem qab {p:Pc} {flags uses i:Nat} {x:Iw×Nat×Ms}:∀ o∈x.1.ops,o∈(jew p flags uses i x).1.ops:=by
 intro o ho
 unfold jew
 simp only
 split<;>simp [ho]
theorem jv3 {p:Pc} {flags uses:Nat}:∀ (d i:Nat) (x:Iw×Nat×Ms),∀ o∈x.1.ops,o∈(jdu p flags uses d i x).1.ops
 | 0,i,x,o,h=>h
 | d+1,i,x,o,h=>jv3 d (i+1) _ o (qab o h)
theorem jpq {w:Ms} {p:Pc}:(jch w p).known≠[]:=by
 have h:∃ o∈(jay w p).1.ops,o.kind=2:=by
  unfold jay
  simp only
  rw [Nat.add_comm 1]
  obtain ⟨o,h1,h2⟩:=qaa (p:=p) (flags:=pk p.flags (2 ^ 30)) (uses:=(jeh w p (pk p.flags (2 ^ 30)) (if w.known=[] then 0 else pk p.flags (2 ^ 30) % 4) 0 ⟨[],pk p.limits (2 ^ 40),(0,0),(0,0)⟩).ops.length) (i:=0) (x:=(jeh w p (pk p.flags (2 ^ 30)) (if w.known=[] then 0 else pk p.flags (2 ^ 30) % 4) 0 ⟨[],pk p.limits (2 ^ 40),(0,0),(0,0)⟩,(jeh w p (pk p.flags (2 ^ 30)) (if w.known=[] then 0 else pk p.flags (2 ^ 30) % 4) 0 ⟨[],pk p.limits (2 ^ 40),(0,0),(0,0)⟩).ops.length,w))
  exact ⟨o,jv3 _ 1 _ o h1,h2⟩
 obtain ⟨o,h1,h2⟩:=h
 intro h3
 have h4:(jay w p).2.known++jcg (jay w p).1=[]:=h3
 have h5:=(List.append_eq_nil_iff.1 h4).2
 unfold jcg at h5
 have h6:o.value∈((jay w p).1.ops.filter (fun o=>o.kind=2)).map (·.value):=List.mem_map.2 ⟨o,List.mem_filter.2 ⟨h1,by simpa using h2⟩,rfl⟩
 rw [h5] at h6
 cases h6
section
variable {F:Fns} (B:Base F)
include B
theorem jpr {hi:Hp} {p bx:Nat} {w:Ms} {ns:List Nat} (ok:Ok hi) (mr:MR tt hi p w ns) {N:Nat} (wk:Wok w N) (hN:N<=90000) {cls:Nat} {a x3:AV} {Q:Ex->St->Prop}:∀ (n:Nat) (i:Int) (_:i=n - 1∨(n=0/\i<0/\-10<=i)) (_:n<=w.known.length) (x4 x5:AV)
 (hF:jtr w cls n=none->∀ x4 x5 i,Q (.exit 0) (.mk [.s (.ptr p 0),vi cls,a,x3,x4,x5,vi i,.s (.ptr bx 0)] hi))
 (hS:∀ v,jtr w cls n=some v->∀ x4 x5 i,Q .ret (.mk [.s (.ptr p 0),vi cls,a,vi v,x4,x5,vi i,.s (.ptr bx 0)] hi)),
 W F jij.loop (.mk [.s (.ptr p 0),vi cls,a,x3,x4,x5,vi i,.s (.ptr bx 0)] hi) Q
 | 0,i,h1,h2,x4,x5,hF,hS=>by
  rw [jao]
  unfold jij
  have h3:¬ (0<=i):=by omega
  simp (disch:=first|omega|simp only[List.length]|apply_rules[jaa,jac,jad]) only [go_sem,h3]
  exact hF rfl _ _ _
 | n+1,i,h1,h2,x4,x5,hF,hS=>by
  rw [jao]
  unfold jij
  have h3:i=(n:Int):=by omega
  subst h3
  have h4:(0<=(n:Int)):=by omega
  obtain ⟨⟨av,bv,kv,n1,n2,n3,hg,hv,hb,hk,e0⟩,hd,hlt⟩:=id mr
  obtain ⟨v,hv1⟩:∃ v,w.known[n]?=some v:=⟨_,List.getElem?_eq_getElem h2⟩
  have hvl:=wk.known v (List.mem_of_getElem? hv1)
  obtain ⟨kb,krow,kms,ke1,ke2,ke3,⟨rfl,rfl⟩,ke5,ke6⟩:=hk.at hv1
  obtain ⟨c,hc1⟩:∃ c,w.values[v]?=some c:=⟨_,List.getElem?_eq_getElem hvl⟩
  obtain ⟨vb1,vrow,vms,ve1,ve2,ve3,⟨rfl,rfl⟩,ve5,ve6⟩:=hv.at hc1
  have hfind:jtr w cls (n+1)=if c=cls then some v else jtr w cls n:=by
   show (if w.values.getD (w.known.getD n 0) 0=cls then _ else _)=_
   simp only [List.getD_eq_getElem?_getD,hv1,hc1,Option.getD_some]
  have hnk:=wk.nk
  by_cases hc:(c:Int)=cls
  ·have hc':c=cls:=by omega
   simp (disch:=first|omega|simp only[List.length]|apply_rules[jaa,jac,jad]) only [go_sem,eq_true h4,hg,ke1,ke2,ve1,ve2,eq_true hc]
   exact hS v (by rw [hfind,if_pos hc']) _ _ _
  ·have hc':c≠cls:=by omega
   simp (disch:=first|omega|simp only[List.length]|apply_rules[jaa,jac,jad]) only [go_sem,eq_true h4,hg,ke1,ke2,ve1,ve2,eq_false hc,jah]
   exact jpr ok mr wk hN n _ (.inl rfl) (by omega) _ _ (fun h=>hF (by rw [hfind,if_neg hc',h])) (fun v h=>hS v (by rw [hfind,if_neg hc',h]))
theorem Wok.newest {w:Ms} {N:Nat} (wk:Wok w N) (cls:Nat) (p:Pc):Wok (jaf w cls p).2 (N+10):=by
 unfold jaf
 split
 ·exact ⟨wk.m1,wk.m2,wk.vals,wk.known,wk.cur,Nat.le_add_right_of_le wk.nv,Nat.le_add_right_of_le wk.nb,Nat.le_add_right_of_le wk.nk,fun b hb=>by have:=wk.ni b hb;omega,Nat.le_add_right_of_le wk.na⟩
 ·exact wk.lay _
theorem j59 {h:Hp} {p:Nat} {w:Ms} {ns:List Nat} (ok:Ok h) (mr:MR tt h p w ns) {N:Nat} (wk:Wok w N) (hN:N<=79000) (cls:Nat) (hcls:cls<2) (pc:Pc) (pin:Pin pc) :
 WC F 49 [.s (.ptr p 0),vi cls,.agg (jb5 pc)] h (fun v h'=>v=vi (jaf w cls pc).1/\∃ ns',MR tt h' p (jaf w cls pc).2 ns'/\Mv h h' ns ns'):=by
 refine ja9 (B.no 49 (by simp) _ _) ((B.T _).trans j9q) rfl ?_
 unfold jvf
 have hpos:=ok.pos
 obtain ⟨hA,eA⟩:∃ hA,hA=h.push (AB.arr (jb5 pc) 72):=⟨_,rfl⟩
 have okA:Ok hA:=by rw [eA];exact jac ok
 have gA:∀ n,n<h.next->hA.get n=h.get n:=fun n hn=>by rw [eA,jav ok,if_neg (by omega)]
 have oA:hA.get h.next=some (.arr (jb5 pc) 72):=by rw [eA,jav ok,if_pos rfl]
 have nA:hA.next=h.next+1:=by rw [eA,Hp.next_push]
 have eA':h.push (AB.arr [si pc.kind,si pc.op,si pc.a,si pc.b,si pc.c,si pc.limits,si pc.flags] 72)=hA:=by rw [eA];rfl
 clear eA
 have mrA:=mr.keep (h':=hA) (fun n hn=>gA n (mr.lt n hn).2) (by omega)
 have mvA:Mv h hA ns ns:=⟨okA,by omega,fun n hn=>.inl hn,fun n h1 h2=>gA n h1⟩
 unfold jb5 at oA
 obtain ⟨⟨av,bv,kv,n1,n2,n3,hg,hv,hb,hk,e0⟩,hd,hlt⟩:=id mrA
 have kl:=hk.len
 have hnk:=wk.nk
 obtain ⟨⟨q1,q2⟩,⟨q3,q4⟩,⟨q5,q6⟩,⟨q7,q8⟩,⟨q9,q10⟩,⟨q11,q12⟩,⟨q13,q14⟩⟩:=id pin
 have hp3:pk pc.b 3<3:=jfk (by omega)
 simp (disch:=first|omega|simp only[List.length]|apply_rules[jaa,jac,jad]) only [go_sem,jfp,jfq,jfr,jfs,jft,jbv,jam,jaj,ja0 B,jb5,eA',hg,oA,kl,jah]
 refine jpr B okA mrA wk (by omega) (w.known.length - pk pc.b 3) _ (by omega) (Nat.sub_le _ _) _ _ (fun hF x4 x5 i=>?_) (fun v hF x4 x5 i=>?_)
 ·have hnew:jaf w cls pc=((jch w { pc with c:=3*cls }).known.getD ((jch w { pc with c:=3*cls }).known.length - 1) 0,jch w { pc with c:=3*cls }):=by
   unfold jaf;rw [hF]
  rw [hnew]
  have hbx:∀ n∈ns,n≠h.next:=fun n hn e=>by have:=(mr.lt n hn).2;omega
  obtain ⟨hB,eB⟩:∃ hB,hB=hA.put h.next (some (AB.arr [si pc.kind,si pc.op,si pc.a,si pc.b,si (3*(cls:Int)),si pc.limits,si pc.flags] 72)):=⟨_,rfl⟩
  have okB:Ok hB:=by rw [eB];exact jad okA
  have gB:∀ n,n≠h.next->hB.get n=hA.get n:=fun n hn=>by rw [eB,jai okA hpos,if_neg hn]
  have oB:hB.get h.next=some (AB.arr [si pc.kind,si pc.op,si pc.a,si pc.b,si (3*(cls:Int)),si pc.limits,si pc.flags] 72):=by rw [eB,jai okA hpos,if_pos rfl]
  have nB:hB.next=h.next+1:=by rw [eB,Hp.next_put,nA]
  have mrB:=mrA.keep (h':=hB) (fun n hn=>gB n (hbx n hn)) (by omega)
  have mvB:Mv h hB ns ns:=⟨okB,by omega,fun n hn=>.inl hn,fun n h1 h2=>(gB n (by omega)).trans (gA n h1)⟩
  have h3c:(3*(cls:Int))<=3/\0<=3*(cls:Int):=by omega
  simp (disch:=first|omega|simp only[List.length]|apply_rules[jaa,jac,jad]) only [go_sem,oA,jah]
  rw [←eB]
  refine WC.imp (qbo B okB mrB wk (by omega) { pc with c:=3*cls } ⟨⟨q1,q2⟩,⟨q3,q4⟩,⟨q5,q6⟩,⟨q7,q8⟩,⟨by show _<=3*(cls:Int);omega,by show 3*(cls:Int)<=_;omega⟩,⟨q11,q12⟩,⟨q13,q14⟩⟩) ?_
  rintro _ h2 ⟨rfl,ns',mr2,mv2⟩
  have wk2:=wk.lay { pc with c:=3*cls }
  have hne:=jpq (w:=w) (p:={ pc with c:=3*cls })
  generalize jch w { pc with c:=3*cls }=w2 at mr2 wk2 hne ⊢
  have mrr:=mr2
  obtain ⟨⟨av2,bv2,kv2,m1,m2,m3,hg2,hv2,hb2,hk2,e2⟩,hd2,hlt2⟩:=mr2
  have hl2:0<w2.known.length:=List.length_pos_iff.2 hne
  obtain ⟨v,hv3⟩:∃ v,w2.known[w2.known.length - 1]?=some v:=⟨_,List.getElem?_eq_getElem (by omega)⟩
  obtain ⟨kb,krow,kms,ke1,ke2,ke3,⟨rfl,rfl⟩,ke5,ke6⟩:=hk2.at hv3
  have kl2:=hk2.len
  have hnk2:=wk2.nk
  have ok2:=mv2.ok
  have hgd:w2.known.getD (w2.known.length - 1) 0=v:=by rw [List.getD_eq_getElem?_getD,hv3,Option.getD_some]
  have hsub:((w2.known.length:Int) - 1)=((w2.known.length - 1:Nat):Int):=by omega
  simp (disch:=first|omega|simp only[List.length]|apply_rules[jaa,jac,jad]) only [go_sem,hg2,kl2,jah,hsub,ke1,ke2,hgd]
  exact ⟨ns',mrr,mvB.trans mv2⟩
 ·have hnew:jaf w cls pc=(v,w):=by unfold jaf;rw [hF]
  rw [hnew]
  simp (disch:=first|omega|simp only[List.length]|apply_rules[jaa,jac,jad]) only [go_sem]
  exact ⟨ns,mrA,mvA⟩
end
open Go Go.RowKit
def jv4:IC:=(.region [(qQ 2 (.mv (qC 0)))])
def jv5:IC:=(.region [(qP (.build [.nilSlice,.nilSlice,.nilSlice] [])),(qB 4 (.new 36 [.nilSlice,.nilSlice,.nilSlice])),(qA (.store 3 (.l 0) (.l 1)))])
def jv6:IC:=(.region [(qQ 5 (.mv (.g 1))),(qQ 7 (.len (.l 0))),(qQ 8 (.mv (qC 0)))])
def jps:IC:=(.region [(qQ 6 (.bin .lt (.g 8) (.g 7)))])
def jpt:IC:=(.cond (.g 6) .skip (.exit 0))
def jv7:IC:=(.region [(qP (.ixs 1 (.g 5) (.g 8))),(qA (.load 1 false (.l 0))),(qQ 3 (.mv (.l 0)))])
def jv8:List (IOper×List Nat):=[((.mk .none (.p (.fld 0 (.g 4))) .none),[]),((.mk .none (.a (.load 1 false (.l 0))) .none),[]),((.mk .none (.p (.mv (.g 0))) .none),[]),((.mk .none (.p (.mv (.g 3))) .none),[]),((.mk .none (.a (.call 47 [(.l 1),(.l 0)])) .none),[2]),((.mk .none (.a (.bslice 3 1 [(.int .i64 0)] 1 [(0,(1,(.l 0)))])) .none),[3]),((.mk .none (.a (.app 3 1 8 (.l 4) (.l 0))) .none),[]),((.mk .none (.p (.fld 0 (.g 4))) .none),[]),((.mk .none (.a (.store 1 (.l 0) (.l 1))) .none),[])]
def jv9:IC:=(.region [(qP (.bin .add (.g 8) (qC 1))),(qQ 8 (.mv (.l 0)))])
def jpu:IB:=(.seq (.c jps) (.seq (.c jpt) (.seq (.block 1 (.seq (.c jv7) (.flo jv8))) (.c jv9))))
def jwa:List (IOper×List Nat):=[((.mk .none (.p (.mv (.g 0))) .none),[]),((.mk .none (.p (.mv (.g 0))) .none),[]),((.mk .none (.p (.nchk (.l 0))) .none),[]),((.mk .none (.p (.fld 2 (.l 0))) .none),[]),((.mk .none (.p (.fld 1 (.l 0))) .none),[]),((.mk .none (.a (.load 1 false (.l 0))) .none),[]),((.mk .none (.a (.load 3 true (.g 4))) .none),[0]),((.mk .none (.a (.bslice 36 3 [.nilSlice,.nilSlice,.nilSlice] 1 [(0,(3,(.l 0)))])) .none),[1]),((.mk .none (.a (.app 36 3 72 (.l 2) (.l 0))) .none),[]),((.mk .none (.p (.nchk (.l 8))) .none),[]),((.mk .none (.p (.fld 2 (.l 0))) .none),[]),((.mk .none (.p (.fld 1 (.l 0))) .none),[]),((.mk .none (.a (.store 1 (.l 0) (.l 3))) .none),[])]
def jwb:IC:=(.region [(qP (.mv (.g 0))),(qP (.nchk (.l 0))),(qP (.fld 2 (.l 0))),(qP (.fld 1 (.l 0))),(qA (.load 1 false (.l 0))),(qP (.len (.l 0))),(qP (.bin .sub (.l 0) (qC 1))),(qQ 2 (.mv (.l 0)))])
def jwc:IC:=.ret
def jmy:IB:=(.seq (.c jv4) (.seq (.c jv5) (.seq (.seq (.c jv6) (.block 0 (.loop jpu))) (.seq (.flo jwa) (.seq (.c jwb) (.c jwc))))))
theorem qac:TB 29 true=some (.mk jmy 2 7 [(.tmp 2)]):=by kernel_rfl
def noB (_:FuncId):Bool:=false
theorem qhy:∀ f,noB f=true->qgn Try.prog f:=fun f hf=>by cases hf
theorem ql4 {q:FB1} {fl:Bool} (hq:TB q.f fl=some (.mk q.ib q.nargs q.nslots q.res)):FbOk Try.prog tys q:=by
 obtain ⟨fn,hfn,hcomp⟩:=jab.1 (show ob (Try.prog.funcs[q.f]?) (qe0 tys fl)=_ from hq)
 unfold qe0 at hcomp
 split at hcomp
 ·cases hcomp
 ·rename_i b hb
  dsimp only at hcomp
  split at hcomp
  ·rename_i c r hc hr
   cases hna:Nat.ble (fn.params.size+fn.nfree) fn.ntmps with
   | false=>rw [hna] at hcomp;cases hcomp
   | true =>
    rw [hna] at hcomp
    have h1:IFB.mk c (fn.params.size+fn.nfree) (jc1 (j3q (fn.params.size+fn.nfree) (jlz (fn.params.size+fn.nfree) [] b) fn.results.toList)) r=.mk q.ib q.nargs q.nslots q.res:=Option.some.inj hcomp
    obtain ⟨e1,e2,e3,e4⟩:=IFB.mk.inj h1
    rw [e1,e2] at hc
    rw [e2,e4] at hr
    refine ⟨⟨fn,hfn,by rw [hb];rfl,?_⟩,fn,b,_,fl,hfn,hb,by rw [←e2];exact Nat.le_of_ble_eq_true hna,hc,hr⟩
    have:=List.all_eq_true.1 qhl fn (by
     rw [←Array.getElem?_toList] at hfn
     exact List.mem_of_getElem? hfn)
    simpa using this
  ·cases hcomp
def jf7:FB1:=⟨29,jmy,2,7,[(.tmp 2)]⟩
noncomputable def F2:Fns:=BX noB jf7 F1
theorem ql5 {A:Nat->Int}:Env Try.prog A tys F1:=jh3 ql2
theorem ql6 {A:Nat->Int}:Env Try.prog A tys F2:=qhx ql5 qhy (ql4 qac)
theorem qhz:Base F1 where
 T:=fun f=>rfl
 pk:=fun vs h=>rfl
 no:=fun f hf vs h=>by
  have:S1 f=false:=by rcases hf with rfl | rfl | rfl | rfl | rfl | rfl<;>rfl
  exact (ja4 this).trans qkd
theorem jh8:Base F2 where
 T:=fun f=>rfl
 pk:=fun vs h=>j0p rfl
 no:=fun f hf vs h=>by
  have:Nat.beq f jf7.f=false:=by rcases hf with rfl | rfl | rfl | rfl | rfl | rfl<;>rfl
  exact (j0p this).trans (qhz.no f hf vs h)
theorem j0q {st fr:List AV} {o:AO} {h:Hp} {v:AV}:(flE st fr o h v).ld=true:=rfl
theorem j6a {st fr:List AV} {o:AO} {h h' h2:Hp} {v:AV} (k:jd8 st fr h' o=some (v,h2)):(flE st fr o h v).ev h'=some (flE st fr o h v).v:=by
 show ob (jd8 st fr h' o) (fun q=>some q.1)=some v
 rw [k];rfl
theorem j6b {b o n m z:Nat} {e:Bool}:eqN (.s (.slice b o n m e z)) (.s (.slice b o n m e z))=true:=by
 show oif (Nat.beq b b) (oif (Nat.beq o o) (oif (Nat.beq n n) (oif (Nat.beq m m) (oif (qdv e e) (Nat.beq z z) false) false) false) false) false=true
 simp only [Nat.beq_refl]
 cases e<;>rfl
theorem Sl.eqN {α:Type} {h:Hp} {ty sz:Nat} {ex:Bool} {E:List SV->α->List Nat->Prop} {x:SV} {l:List α} {ns:List Nat} (k:Sl h ty sz ex E x l ns):eqN (.s x) (.s x)=true:=by
 rcases k with ⟨_,rfl,_⟩ | ⟨_,b,rows,nss,rfl,_⟩
 ·rfl
 ·exact j6b
theorem jy2 {a n:Nat}:List.range' a n++[a+n]=List.range' a (n+1):=by rw [List.range'_concat,Nat.one_mul]
theorem jrh {h:Hp} {p bx:Nat} {w:Ms} {ns:List Nat} {cs:List Nat} {xo:SV} {nsx:List Nat} (hns:∀ n∈ns,n<h.next) (hbx1:h.next<=bx) (hpos:1<=h.next) (hcs:∀ c∈cs,c<2) (hx:∀ n∈nsx,n<h.next/\n∉ns) (hlen:w.values.length+cs.length<=90000) {x2:AV} {Q:Ex->St->Prop} :
 ∀ (rest done:List Nat) (_:done++rest=cs) {hi:Hp} {ns' nsp:List Nat} {pp:SV} (_:Ok hi) (_:MR tt hi p { w with values:=w.values++done } ns') (_:Mv h hi ns ns') (_:bx<hi.next/\bx∉ns') (_:hi.get bx=some (.arr [pp,.nilSlice,.nilSlice] 36))
  (_:Sl hi 3 1 false EI pp (List.range' w.values.length done.length) nsp) (_:∀ n∈nsp,h.next<=n/\n<hi.next/\n∉ns'/\n≠bx) (_:nsp.Nodup) (_:Sl hi 3 1 true EI xo cs nsx) {x3 x6:AV}
  (hQ:∀ hj ns'' nsp' pp' x3 x6,Ok hj->MR tt hj p { w with values:=w.values++cs } ns''->Mv h hj ns ns''->bx<hj.next/\bx∉ns''->hj.get bx=some (.arr [pp',.nilSlice,.nilSlice] 36)->Sl hj 3 1 false EI pp' (List.range' w.values.length cs.length) nsp'->(∀ n∈nsp',h.next<=n/\n<hj.next/\n∉ns''/\n≠bx)->nsp'.Nodup ->
   Q (.exit 0) (.mk [.s (.ptr p 0),.s xo,x2,x3,.s (.ptr bx 0),.s xo,x6,vi cs.length,vi cs.length] hj)),
  WB F1 noB (.loop jpu) (.mk [.s (.ptr p 0),.s xo,x2,x3,.s (.ptr bx 0),.s xo,x6,vi cs.length,vi done.length] hi) Q
 | [],done,hdn,hi,ns',nsp,pp,ok,mr,mv,hb,hg,sp,lo,nd,sx,x3,x6,hQ=>by
  rw [List.append_nil] at hdn
  subst hdn
  refine WB.loop ?_
  unfold jpu
  refine WB.seq (WB.c ?_)
  unfold jps
  simp (disch:=first|omega|simp only[List.length]|apply_rules[jaa,jac,jad]) only [go_sem,Int.lt_irrefl]
  refine WB.seq (WB.c ?_)
  unfold jpt
  simp (disch:=first|omega|simp only[List.length]|apply_rules[jaa,jac,jad]) only [go_sem]
  exact hQ hi _ _ _ _ _ ok mr mv hb hg sp lo nd
 | c::rest,done,hdn,hi,ns',nsp,pp,ok,mr,mv,hb,hg,sp,lo,nd,sx,x3,x6,hQ=>by
  have hlen1:done.length<cs.length:=by rw [←hdn];simp
  have hlt1:(done.length:Int)<cs.length:=by omega
  have hget:cs[done.length]?=some c:=by rw [←hdn];simp
  have hc2:=hcs c (List.mem_of_getElem? hget)
  obtain ⟨ob1,orow,oms,oe1,oe2,oe3,⟨rfl,rfl⟩,oe5,oe6⟩:=sx.at hget
  have hob:=hx ob1 oe6
  refine WB.loop (WB.seq (WB.c ?_))
  unfold jps
  simp (disch:=first|omega|simp only[List.length]|apply_rules[jaa,jac,jad]) only [go_sem,eq_true hlt1]
  refine WB.seq (WB.c ?_)
  unfold jpt
  simp (disch:=first|omega|simp only[List.length]|apply_rules[jaa,jac,jad]) only [go_sem]
  refine WB.seq (WB.block (WB.seq (WB.c ?_)))
  unfold jv7
  simp (disch:=first|omega|simp only[List.length]|apply_rules[jaa,jac,jad]) only [go_sem,oe1,oe2]
  refine WB.flo ?_
  unfold jv8
  refine WL.pure (v:=.s (.ptr bx 0)) (by simp only [go_sem]) ?_
  refine WL.ld (v:=.s pp) (h':=hi) rfl (by simp only [go_sem,hg]) (by simp) sp.eqN ?_
  refine WL.pure (v:=.s (.ptr p 0)) (by simp only [go_sem]) ?_
  refine WL.pure (v:=vi c) (by simp only [go_sem]) ?_
  refine WL.call (vs:=[.s (.ptr p 0),vi c]) (by simp only [go_sem]) ?_
  refine WC.imp (j0i qhz ok mr c hc2 (by simp;omega)) ?_
  rintro _ h2 ⟨rfl,ns2,mr2,mv2⟩
  have ok2:=mv2.ok
  have g2:∀ n,n<hi.next->n∉ns'->h2.get n=hi.get n:=mv2.keep
  have b2:h2.get bx=some (.arr [pp,.nilSlice,.nilSlice] 36):=(g2 bx hb.1 hb.2).trans hg
  refine ⟨fun j hj=>by simp at hj;subst hj;exact ⟨_,rfl,j0q,j6a (h2:=h2) (by simp only [go_sem,b2]),sp.eqN⟩,?_⟩
  have hk:(w.values++done).length=w.values.length+done.length:=by simp
  have hkk:({ w with values:=w.values++done }:Ms).values.length=w.values.length+done.length:=hk
  rw [hkk]
  have p2:∀ n,n<h2.next->(h2.push (AB.arr [si ((w.values.length+done.length:Nat):Int)] 3)).get n=h2.get n:=fun n hn=>by rw [jav ok2,if_neg (by omega)]
  refine WL.mem (v:=.s (.slice h2.next 0 1 1 true 1)) (h':=h2.push (AB.arr [si ((w.values.length+done.length:Nat):Int)] 3)) rfl rfl (by simp (disch:=first|omega|simp only[List.length]|apply_rules[jaa,jac,jad]) only [go_sem]) (fun j hj=>by simp at hj;subst hj;exact ⟨_,rfl,j0q,j6a (h2:=h2.push (AB.arr [si ((w.values.length+done.length:Nat):Int)] 3)) (by have:=(p2 bx (by have:=mv2.nx;omega)).trans b2;simp only [go_sem,this]),sp.eqN⟩) ?_
  have sp2:=sp.keep (h':=h2) (fun n hn=>g2 n (lo n hn).2.1 (lo n hn).2.2.1)
  have mn2:=mv2.nx
  obtain ⟨h4,e4,ok4,n4,kp4,kt4,sl4⟩:=sp2.app1 (bytes:=8) (row:=[si ((w.values.length+done.length:Nat):Int)]) (a:=w.values.length+done.length) (ms:=[]) ok2 (fun n hn=>by have:=lo n hn;omega) rfl ⟨rfl,rfl⟩ (by rw [List.length_range'];omega) (by rw [List.length_range'];omega)
  have sl5:=sl4 (E':=EI) (fun _ _ _ _ h=>h)
  rw [List.length_range'] at e4 sl5
  rw [jy2] at sl5
  refine WL.mem (v:=.s (.slice (h2.next+1) 0 (done.length+1) (done.length+1) false 1)) (h':=h4) rfl rfl (by simp only [go_sem,e4]) (fun j hj=>by simp at hj) ?_
  refine WL.pure (v:=.s (.ptr bx 0)) (by simp only [go_sem]) ?_
  have bnp:bx∉nsp:=fun h1=>(lo bx h1).2.2.2 rfl
  have b4:h4.get bx=some (.arr [pp,.nilSlice,.nilSlice] 36):=(kp4 bx (by omega) bnp).trans b2
  refine WL.mem (v:=.undef) (h':=h4.put bx (some (.arr [.slice (h2.next+1) 0 (done.length+1) (done.length+1) false 1,.nilSlice,.nilSlice] 36))) rfl rfl (by simp (disch:=first|omega|simp only[List.length]|apply_rules[jaa,jac,jad]) only [go_sem,b4]) (fun j hj=>by simp at hj) ?_
  refine WL.nil ?_
  obtain ⟨h5,e5⟩:∃ h5,h5=h4.put bx (some (.arr [.slice (h2.next+1) 0 (done.length+1) (done.length+1) false 1,.nilSlice,.nilSlice] 36)):=⟨_,rfl⟩
  rw [←e5]
  have hbp:1<=bx:=by omega
  have ok5:Ok h5:=by rw [e5];exact jad ok4
  have g5:∀ n,n≠bx->h5.get n=h4.get n:=fun n hn=>by rw [e5,jai ok4 hbp,if_neg hn]
  have b5:h5.get bx=some (.arr [.slice (h2.next+1) 0 (done.length+1) (done.length+1) false 1,.nilSlice,.nilSlice] 36):=by rw [e5,jai ok4 hbp,if_pos rfl]
  have n5:h5.next=h2.next+2:=by rw [e5,Hp.next_put,n4]
  clear e5
  refine WB.c ?_
  unfold jv9
  have hlen2:(done++[c]).length=done.length+1:=by simp
  have hsucc:((done.length:Int)+1)=(((done++[c]).length:Nat):Int):=by rw [hlen2];omega
  simp (disch:=first|omega|simp only[List.length]|apply_rules[jaa,jac,jad]) only [go_sem,jah,hsucc]
  have bn2:bx∉ns2:=fun h1=>by
   rcases mv2.new bx h1 with h3 | h3
   ·exact hb.2 h3
   ·omega
  have lt2:=fun n hn=>(mr2.lt n hn).2
  have ns2p:∀ n∈ns2,n∉nsp:=fun n hn h1=>by
   rcases mv2.new n hn with h3 | h3
   ·exact (lo n h1).2.2.1 h3
   ·have:=(lo n h1).2.1;omega
  have k5:∀ n∈ns2,h5.get n=h2.get n:=fun n hn=>(g5 n (fun e=>bn2 (e▸hn))).trans (kp4 n (lt2 n hn) (ns2p n hn))
  have mr5:=mr2.keep (h':=h5) k5 (by omega)
  have hns':∀ n,n<h.next->n∉ns->n∉ns':=fun n h1 h3 h4'=>by
   rcases mv.new n h4' with h5' | h5'
   ·exact h3 h5'
   ·omega
  have old5:∀ n,n<h.next->n∉ns->h5.get n=hi.get n:=fun n h1 h3=>(g5 n (by omega)).trans ((kp4 n (by have:=mv.nx;omega) (fun h4'=>by have:=(lo n h4').1;omega)).trans (g2 n (by have:=mv.nx;omega) (hns' n h1 h3)))
  have mv5:Mv h h5 ns ns2:=⟨ok5,by have:=mv.nx;omega,fun n hn=>(mv.trans mv2).new n hn,fun n h1 h3=>(old5 n h1 h3).trans (mv.keep n h1 h3)⟩
  have sl6:Sl h5 3 1 false EI (.slice (h2.next+1) 0 (done.length+1) (done.length+1) false 1) (List.range' w.values.length (done++[c]).length) ((h2.next+1)::(nsp.tail++[])):=by
   rw [hlen2]
   exact sl5.keep (fun n hn=>g5 n (by
    rcases List.mem_cons.1 hn with rfl | hn
    ·omega
    ·exact (lo n (List.mem_of_mem_tail (by simpa using hn))).2.2.2))
  refine jrh hns hbx1 hpos hcs hx hlen rest (done++[c]) (by rw [←hdn];simp) ok5 (by simpa [List.append_assoc] using mr5) mv5 ⟨by omega,bn2⟩ b5 sl6 (fun n hn=>?_) ?_ (sx.keep (fun n hn=>old5 n (hx n hn).1 (hx n hn).2)) hQ
  ·rcases List.mem_cons.1 hn with rfl | hn
   ·exact ⟨by omega,by omega,fun h1=>by have:=lt2 _ h1;omega,by omega⟩
   ·have h1:=List.mem_of_mem_tail (by simpa using hn)
    exact ⟨(lo n h1).1,by have:=(lo n h1).2.1;omega,fun h3=>ns2p n h3 h1,(lo n h1).2.2.2⟩
  ·exact jb2 nd .nil (by simp) (fun h1=>by have:=(lo _ h1).2.1;omega) (by simp)
theorem Wok.block {w:Ms} {N:Nat} (wk:Wok w N) (cs:List Nat) (h1:cs.length<=2) (h2:∀ c∈cs,c<2):Wok (jag w cs) (N+2):=by
 unfold jag
 refine ⟨wk.m1,wk.m2,fun c hc=>?_,fun v hv=>by have:=wk.known v hv;simp;omega,by have:=wk.cur;simp;omega,by have:=wk.nv;simp;omega,by have:=wk.nb;simp;omega,Nat.le_add_right_of_le wk.nk,fun b hb=>?_,Nat.le_add_right_of_le wk.na⟩
 ·rcases List.mem_append.1 hc with h | h
  ·exact wk.vals c h
  ·exact h2 c h
 ·rcases List.mem_append.1 hb with h | h
  ·have:=wk.ni b h;omega
  ·obtain rfl:=List.mem_singleton.1 h
   simp;omega
theorem jty {h:Hp} {p:Nat} {w:Ms} {ns:List Nat} (ok:Ok h) (mr:MR tt h p w ns) {N:Nat} (hnv:w.values.length<=N) (hnb:w.blocks.length<=N) (hN:N<=79000) {cs:List Nat} {xo:SV} {nsx:List Nat} (sx:Sl h 3 1 true EI xo cs nsx) (hc:cs.length<=2) (hcs:∀ c∈cs,c<2) (hx:∀ n∈nsx,n<h.next/\n∉ns) :
 WC F2 29 [.s (.ptr p 0),.s xo] h (fun v h'=>v=vi w.blocks.length/\∃ ns',MR tt h' p (jag w cs) ns'/\Mv h h' ns ns'):=by
 refine qkk (q:=jf7) rfl ?_
 show WB F1 noB jmy (.mk _ h) (qbk [(.tmp 2)] _)
 unfold jmy
 have hpos:=ok.pos
 refine WB.seq (WB.c ?_)
 unfold jv4
 simp (disch:=first|omega|simp only[List.length]|apply_rules[jaa,jac,jad]) only [go_sem]
 refine WB.seq (WB.c ?_)
 unfold jv5
 obtain ⟨hA,eA⟩:∃ hA,hA=(h.push (AB.arr [.nilSlice,.nilSlice,.nilSlice] 36)).put h.next (some (AB.arr [.nilSlice,.nilSlice,.nilSlice] 36)):=⟨_,rfl⟩
 have okA:Ok hA:=by rw [eA];exact jad (jac ok)
 have gA:∀ n,n<h.next->hA.get n=h.get n:=fun n hn=>by
  rw [eA,jai (jac ok) hpos,jav ok,if_neg (by omega),if_neg (by omega)]
 have oA:hA.get h.next=some (AB.arr [.nilSlice,.nilSlice,.nilSlice] 36):=by
  rw [eA,jai (jac ok) hpos,if_pos rfl]
 have nA:hA.next=h.next+1:=by rw [eA,Hp.next_put,Hp.next_push]
 simp (disch:=first|omega|simp only[List.length]|apply_rules[jaa,jac,jad]) only [go_sem]
 rw [←eA]
 clear eA
 refine WB.seq (WB.seq (WB.c ?_))
 unfold jv6
 have lx:=sx.len
 simp (disch:=first|omega|simp only[List.length]|apply_rules[jaa,jac,jad]) only [go_sem,lx]
 have hns:∀ n∈ns,n<h.next:=fun n hn=>(mr.lt n hn).2
 have mrA:=mr.keep (h':=hA) (fun n hn=>gA n (hns n hn)) (by omega)
 have mvA:Mv h hA ns ns:=⟨okA,by omega,fun n hn=>.inl hn,fun n h1 h2=>gA n h1⟩
 refine WB.block (jrh (w:=w) (bx:=h.next) (nsp:=[]) (pp:=.nilSlice) hns (Nat.le_refl _) hpos hcs hx (by omega) cs [] rfl okA (by simpa using mrA) mvA ⟨by omega,fun h1=>by have:=hns _ h1;omega⟩ oA Sl.nil (by simp) .nil (sx.keep (fun n hn=>gA n (hx n hn).1)) ?_)
 intro hj ns2 nsp pp x3 x6 okj mrj mvj hbj gj sp lo nd
 refine WB.seq (WB.flo ?_)
 unfold jwa
 obtain ⟨⟨av,bv,kv,n1,n2,n3,hg,hv,hb,hk,rfl⟩,hd,hlt⟩:=mrj
 have hp:=hlt p (by simp)
 have hpb:p≠h.next:=fun e=>hbj.2 (by simp [←e])
 have hfb:∀ n∈nsp,n≠h.next:=fun n hn=>(lo n hn).2.2.2
 refine WL.pure (v:=.s (.ptr p 0)) (by simp only [go_sem]) ?_
 refine WL.pure (v:=.s (.ptr p 0)) (by simp only [go_sem]) ?_
 refine WL.pure (v:=.s (.ptr p 0)) (by simp only [go_sem]) ?_
 refine WL.pure (v:=.s (.ptr p 2)) (by simp only [go_sem]) ?_
 refine WL.pure (v:=.s (.ptr p 3)) (by simp only [go_sem]) ?_
 refine WL.ld (v:=.s bv) (h':=hj) rfl (by simp only [go_sem,hg]) (by simp) hb.eqN ?_
 have hag:eqN (.agg [pp,.nilSlice,.nilSlice]) (.agg [pp,.nilSlice,.nilSlice])=true:=by
  have:qet pp pp=true:=sp.eqN
  show oif (qet pp pp) (oif true (oif true true false) false) false=true
  rw [this];rfl
 refine WL.ld (v:=.agg [pp,.nilSlice,.nilSlice]) (h':=hj) rfl (by simp only [go_sem,gj]) (fun j hj=>by simp at hj;subst hj;exact ⟨_,rfl,.inl j0q⟩) hag ?_
 have p2:∀ n,n<hj.next->(hj.push (AB.arr [pp,.nilSlice,.nilSlice] 36)).get n=hj.get n:=fun n hn=>by rw [jav okj,if_neg (by omega)]
 refine WL.mem (v:=.s (.slice hj.next 0 1 1 true 3)) (h':=hj.push (AB.arr [pp,.nilSlice,.nilSlice] 36)) rfl rfl (by simp (disch:=first|omega|simp only[List.length]|apply_rules[jaa,jac,jad]) only [go_sem]) (fun j hj'=>by simp at hj';subst hj';exact ⟨_,rfl,j0q,j6a (h2:=hj.push (AB.arr [pp,.nilSlice,.nilSlice] 36)) (by have:=(p2 p hp.2).trans hg;simp only [go_sem,this]),hb.eqN⟩) ?_
 have hEB:EB tt hj [pp,.nilSlice,.nilSlice] (⟨List.range' w.values.length cs.length,[],[]⟩:Blk) nsp:=⟨pp,_,_,nsp,[],[],rfl,sp,Sl.nil,Sl.nil,by simp⟩
 obtain ⟨h4,e4,ok4,n4,kp4,kt4,sl4⟩:=hb.app1 (bytes:=72) (row:=[pp,.nilSlice,.nilSlice]) (a:=(⟨List.range' w.values.length cs.length,[],[]⟩:Blk)) (ms:=nsp) okj (fun n hn=>hlt n (by simp [hn])) rfl hEB (by simp only;omega) (by simp only;omega)
 refine WL.mem (v:=.s (.slice (hj.next+1) 0 (w.blocks.length+1) (w.blocks.length+1) false 3)) (h':=h4) rfl rfl (by simp only [go_sem];exact e4) (fun j hj=>by simp at hj) ?_
 refine WL.pure (v:=.s (.ptr p 0)) (by simp only [go_sem]) ?_
 refine WL.pure (v:=.s (.ptr p 2)) (by simp only [go_sem]) ?_
 refine WL.pure (v:=.s (.ptr p 3)) (by simp only [go_sem]) ?_
 have hpn2:p∉n2:=fun e=>(List.nodup_cons.1 hd).1 (by simp [e])
 have p4:h4.get p=_:=(kp4 p hp.2 hpn2).trans hg
 refine WL.mem (v:=.undef) (h':=h4.put p (some (.arr [si w.m.1,si w.m.2,av,.slice (hj.next+1) 0 (w.blocks.length+1) (w.blocks.length+1) false 3,si w.cur,kv,si w.all] tt.mas))) rfl rfl (by simp (disch:=first|omega|simp only[List.length]|apply_rules[jaa,jac,jad]) only [go_sem,p4]) (fun j hj=>by simp at hj) ?_
 refine WL.nil ?_
 have hdt:=(List.nodup_cons.1 hd).2
 have hd1:=List.nodup_append.1 hdt
 have hd2:=List.nodup_append.1 hd1.2.1
 have k1:∀ n∈n1,h4.get n=hj.get n:=fun n hn=>kp4 n (hlt n (by simp [hn])).2 (fun h1=>hd1.2.2 n hn n (by simp [h1]) rfl)
 have k3:∀ n∈n3,h4.get n=hj.get n:=fun n hn=>kp4 n (hlt n (by simp [hn])).2 (fun h1=>hd2.2.2 n h1 n hn rfl)
 have k2:∀ n∈n2.tail,h4.get n=hj.get n:=fun n hn=>kt4 n hn hd2.1
 have hfn:∀ n∈nsp,n∉p::(n1++(n2++n3)):=fun n hn=>(lo n hn).2.2.1
 have k4:∀ n∈nsp,h4.get n=hj.get n:=fun n hn=>kp4 n (lo n hn).2.1 (fun h1=>hfn n hn (by simp [h1]))
 have sb:=sl4 (E':=EB tt h4) (fun row a m hm k=>k.keep (fun n hn=>by
  rcases hm n hn with h1 | h1
  ·exact k2 n h1
  ·exact k4 n h1))
 have nd2:((hj.next+1)::(n2.tail++nsp)).Nodup:=jb2 hd2.1 nd (fun n hn h1=>hfn n hn (by simp [h1])) (fun h1=>by have:=(hlt (hj.next+1) (by simp [h1])).2;omega) (fun h1=>by have:=(lo _ h1).2.1;omega)
 have nd3:(n1++(((hj.next+1)::(n2.tail++nsp))++n3)).Nodup:=jg9 hdt nd2 (fun n hn=>by
  rcases List.mem_cons.1 hn with rfl | hn
  ·exact .inr (fun h1=>by have:=(hlt (hj.next+1) (List.mem_cons_of_mem _ h1)).2;omega)
  ·rcases List.mem_append.1 hn with hn | hn
   ·exact .inl (List.mem_of_mem_tail hn)
   ·exact .inr (fun h1=>hfn n hn (List.mem_cons_of_mem _ h1)))
 have mem3:∀ n∈n1++(((hj.next+1)::(n2.tail++nsp))++n3),n∈n1++(n2++n3)∨n=hj.next+1∨n∈nsp:=fun n hn=>by
  rcases List.mem_append.1 hn with hn | hn
  ·exact .inl (by simp [hn])
  ·rcases List.mem_append.1 hn with hn | hn
   ·rcases List.mem_cons.1 hn with rfl | hn
    ·exact .inr (.inl rfl)
    ·rcases List.mem_append.1 hn with hn | hn
     ·exact .inl (by simp [List.mem_of_mem_tail hn])
     ·exact .inr (.inr hn)
   ·exact .inl (by simp [hn])
 have nd4:(p::(n1++(((hj.next+1)::(n2.tail++nsp))++n3))).Nodup:=List.nodup_cons.2 ⟨fun h1=>by
  rcases mem3 p h1 with h3 | h3 | h3
  ·exact (List.nodup_cons.1 hd).1 h3
  ·omega
  ·exact hfn p h3 (by simp),nd3⟩
 have lt4:∀ n∈p::(n1++(((hj.next+1)::(n2.tail++nsp))++n3)),1<=n/\n<h4.next:=fun n hn=>by
  rcases List.mem_cons.1 hn with rfl | hn
  ·omega
  ·rcases mem3 n hn with h3 | h3 | h3
   ·have:=hlt n (List.mem_cons_of_mem _ h3);omega
   ·omega
   ·have:=lo n h3;omega
 have mr6:=MR.mk_put (t:=tt) (w':=jag w cs) (a:=av) (b:=.slice (hj.next+1) 0 (w.blocks.length+1) (w.blocks.length+1) false 3) (k:=kv) ok4 (hv.keep k1) sb (hk.keep k3) nd4 lt4
 have mv6:Mv h (h4.put p (some (.arr [si w.m.1,si w.m.2,av,.slice (hj.next+1) 0 (w.blocks.length+1) (w.blocks.length+1) false 3,si w.cur,kv,si w.all] tt.mas))) ns (p::(n1++(((hj.next+1)::(n2.tail++nsp))++n3))):=by
  have hnx:=mvj.nx
  refine ⟨jad ok4,by rw [Hp.next_put];omega,fun n hn=>?_,fun n h1 h3=>?_⟩
  ·rcases List.mem_cons.1 hn with rfl | hn
   ·exact mvj.new n (by simp)
   ·rcases mem3 n hn with h3 | h3 | h3
    ·exact mvj.new n (List.mem_cons_of_mem _ h3)
    ·exact .inr (by omega)
    ·exact .inr (lo n h3).1
  ·have hno:n∉p::(n1++(n2++n3)):=fun h5=>by
    rcases mvj.new n h5 with h6 | h6
    ·exact h3 h6
    ·omega
   rw [jai ok4 hp.1,if_neg (fun e=>hno (by simp [e])),kp4 n (by omega) (fun h5=>hno (by simp [h5]))]
   exact mvj.keep n h1 h3
 have ok6:=mv6.ok
 have g6:(h4.put p (some (.arr [si w.m.1,si w.m.2,av,.slice (hj.next+1) 0 (w.blocks.length+1) (w.blocks.length+1) false 3,si w.cur,kv,si w.all] tt.mas))).get p=some (.arr [si w.m.1,si w.m.2,av,.slice (hj.next+1) 0 (w.blocks.length+1) (w.blocks.length+1) false 3,si w.cur,kv,si w.all] tt.mas):=by
  rw [jai ok4 hp.1,if_pos rfl]
 refine WB.seq (WB.c ?_)
 unfold jwb
 have hs:(((w.blocks.length+1:Nat):Int) - 1)=(w.blocks.length:Int):=by omega
 simp (disch:=first|omega|simp only[List.length]|apply_rules[jaa,jac,jad]) only [go_sem,g6,jah,hs]
 refine WB.c ?_
 unfold jwc
 simp (disch:=first|omega|simp only[List.length]|apply_rules[jaa,jac,jad]) only [go_sem]
 exact ⟨_,mr6,mv6⟩
end Go.Proofs.Ytaljcpoopmedmaa.Ev
