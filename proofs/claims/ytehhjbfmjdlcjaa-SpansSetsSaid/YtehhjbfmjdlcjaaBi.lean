/- Code of functions as the interpreter has it prepared, cut at loops. -/
import Derived.Test.YtehhjbfmjdlcjaaOr
import Derived.Test.YtehhjbfmjdlcjaaMc4
import Derived.Test.YtehhjbfmjdlcjaaIter
import Derived.Test.YtehhjbfmjdlcjaaBf
namespace Go.Proofs.Ytehhjbfmjdlcjaa.Ev
open Go Go.RowKit
set_option linter.all false
set_option maxRecDepth 100000
def qih:IC:=qr [qB 2 (.box 27 (.g 0)),qQ 1 (.mv (.c (.s .nilFunc)))] (qr [qP (.mkfun 60 [.g 2]),qT 1] .ret)
theorem qys:T 41=some (.mk qih 1 2 [(.tmp 1)]):=by kernel_rfl
def isB (f:FuncId):Bool:=Nat.beq f 60
theorem qux:∀ f,isB f=true->Iter Try.prog f:=fun f hf=>by
 obtain rfl:=f0w hf
 exact qrr
open Go Go.RowKit Go.Proofs.Ytehhjbfmjdlcjaa.Ms
variable {x0 x1 x2 x3 x4 x6 x7 x10 x11 x12 x13:AV} {f:Fc} {h hi:Hp} {ic oc ord:List Nat} {p bx ci co gb ty:Nat}
attribute [local go_sem] Int.reduceToNat reduceCtorEq Nat.reduceAdd Nat.reduceMul Nat.reduceEqDiff Int.reduceEq Int.reduceLT Int.reduceLE Int.reduceNeg Int.reduceAdd Int.reduceSub Int.reduceMul Int.reduceNe
attribute [local go_sem ↓] reduceIte
set_option maxHeartbeats 4000000
theorem qp9 {F:Fns} (ok:Ok h) {x:SV} (hX:jb9 F 41 [.s x] h=none) (hT:jqt F 41=T 41) :
 WC F 41 [.s x] h (fun v h'=>v=.s (.func 60 [(h.next,0)])/\Ok h'/\h'.next=h.next+1/\h'.get h.next=some (.arr [x] 27)/\∀ n,n<h.next->h'.get n=h.get n):=by
 refine ja3 hX (hT.trans qys) rfl ?_
 unfold qih
 obtain⟨hA,eA,okA,nA,xA,gA⟩:=jde ok [x] 27
 simp(disch:=first|omega|rfl) only[go_sem,eA]
 first | exact⟨okA,nA,xA,gA⟩ | exact⟨nA,xA,gA⟩ | trace_state
theorem LvOk.lvb {N:Nat} (k:LvOk f N):∀ b∈f.blocks,LvB f.values.length f.blocks.length b:=fun b hb=>by
 obtain⟨p1,p2,p3,p4,p5,p6⟩:=k.blk b hb
 refine⟨fun v hv=>?_,fun v hv=>?_,fun e he=>(p6 e he).2.2,fun e he=>(p6 e he).2.1⟩
 .unfold jck at hv
  rcases f0g.1 hv with h | h
  .exact p4 v h
  .obtain ⟨l,hl,hv⟩:=f2o.1 h
   obtain⟨x,hx,rfl⟩:=f1a.1 hl
   unfold jbm at hv
   obtain⟨o,ho,rfl⟩:=f1a.1 hv
   exact(p5 x hx).2 o (f1t.1 ho).1
 .unfold j3r at hv
  obtain⟨l,hl,hv⟩:=f2o.1 hv
  obtain⟨x,hx,rfl⟩:=f1a.1 hl
  unfold jx4 at hv
  obtain⟨o,ho,rfl⟩:=f1a.1 hv
  exact(p5 x hx).2 o (f1t.1 ho).1
theorem LvOk.n64 {N:Nat} (k:LvOk f N):f.values.length<=64*N:=by have:=k.hN;omega
structure PS (h0 hi:Hp) (f:Fc) (N p ci co bx gb:Nat) (ic oc:List Nat) (ins outs:List (List Nat)) (g:Bool):Prop where
 ns:NS hi f N p ci co ic oc ins outs
 jj:JJ f.values.length N f.blocks ins outs
 xb:hi.get bx=some (.arr [.ptr p 0] 77)
 xg:hi.get gb=some (.arr [.bool g] 4)
 bl:1<=gb/\bx<hi.next/\gb<hi.next/\gb≠bx
 bb:∀ n∈[bx,gb],n∉p::ci::co::(ic++oc)
 fr:∀ n,n<h0.next->hi.get n=h0.get n
 lo:h0.next<=gb/\∀ n∈ic++oc,h0.next<=n
section
variable {F:Fns} (B:RdF F)
include B
theorem qfw {h0:Hp} {N:Nat} {ins outs:List (List Nat)} {g:Bool} (k:PS h0 hi f N p ci co bx gb ic oc ins outs g) (lv:LvOk f N) {q:Nat} {b:Ms.Blk} (hb:f.blocks[q]?=some b) :
 W F jnp (.mk [x0,x1,x2,x3,x4,vi q,x6,x7,.s (.ptr gb 0),.s (.ptr bx 0),x10,x11,x12,x13] hi) (fun ex s=>ex=.normal/\∃ fr' h',s=.mk fr' h'/\hi.next<=h'.next/\(∀ n,n<hi.next->n≠gb->n∉ic++oc->h'.get n=hi.get n)/\PS h0 h' f N p ci co bx gb ic oc (j5y N f.values.length b q ins outs) (jqh b q ins outs) (g||j0w (ins.getD q []) (j03 N f.values.length b q ins outs))):=by
 unfold jnp
 obtain⟨b1,b2,b3,b4⟩:=k.bl
 have xb:=k.xb
 have hbx:bx∉ic++oc:=fun h=>k.bb bx (by simp) (by simp only[f0e];exact .inr (.inr (.inr h)))
 have hgb:gb∉ic++oc:=fun h=>k.bb gb (by simp) (by simp only[f0e];exact .inr (.inr (.inr h)))
 simp(disch:=first|omega|rfl) only[go_sem,xb]
 refine WC.imp (qbc B k.ns lv hb) ?_
 rintro _ hA ⟨rfl,nsA,nA,gA⟩
 have okA:=nsA.ok
 have jA:=k.jj.step lv.n64 lv.lvb hb
 have xbA:=(gA bx b2 hbx).trans k.xb
 have xgA:=(gA gb b3 hgb).trans k.xg
 have frA:∀ n,n<h0.next->hA.get n=h0.get n:=fun n hn=>(gA n (by have:=k.lo.1;omega) (fun h=>by have:=k.lo.2 n h;omega)).trans (k.fr n hn)
 show _
 cases hnw:j0w (ins.getD q []) (qe9 N f.values.length b (jmb ins b (outs.getD q []))) with
 | false =>
  have e:j0w (ins.getD q []) (j03 N f.values.length b q ins outs)=false:=hnw
  rw[e,Bool.or_false]
  simp(disch:=first|omega|rfl) only[go_sem]
  exact⟨_,_,rfl,nA,fun n h1 h2 h3=>gA n h1 h3,nsA,jA,xbA,xgA,⟨b1,by omega,by omega,b4⟩,k.bb,frA,k.lo⟩
 | true =>
  have e:j0w (ins.getD q []) (j03 N f.values.length b q ins outs)=true:=hnw
  rw[e,Bool.or_true]
  obtain⟨hB,eB,okB,nB,xB,gB⟩:=jq7 nsA.ok b1 (some (.arr [.bool true] 4))
  simp(disch:=first|omega|rfl) only[go_sem,xgA,eB]
  have hk:∀ n∈p::ci::co::(ic++oc),hB.get n=hA.get n:=fun n hn=>gB n (fun e=>k.bb gb (by simp) (e▸hn))
  exact⟨_,_,rfl,by omega,fun n h1 h2 h3=>(gB n h2).trans (gA n h1 h3),nsA.keep okB (by omega) hk,jA,(gB bx (fun e=>b4 e.symm)).trans xbA,xB,⟨b1,by omega,by omega,b4⟩,k.bb,fun n hn=>(gB n (by have:=k.lo.1;omega)).trans (frA n hn),k.lo⟩
end
def PI (h0:Hp) (f:Fc) (N p ci co bx gb bs:Nat) (ic oc ord:List Nat) (ins0:List (List Nat)) (k:Nat) (h:Hp):Prop :=
 ∃ ins outs g,PS h0 h f N p ci co bx gb ic oc ins outs g/\h.get bs=some (.arr [jae jal ord] 27)/\bs<h.next/\qh1 N ins0+(if g=true then 1 else 0)<=qh1 N ins/\(g=false->ins=ins0/\∀ j,k<=j->∀ q,ord[j]?=some q->FxB f.blocks ins outs q)
theorem qqa {b:Nat} {x:SV} (k:h.get b=some (.arr [x] ty)):rd h b 0 1=some [x]:=by
 show rdB (h.get b) 0 1=_
 rw[k];rfl
section
variable {F:Fns} (B:RdF F)
include B
theorem qqb {h0:Hp} {N bs:Nat} {ins0:List (List Nat)} (lv:LvOk f N) (ho:ord≠[]) (hoq:∀ q∈ord,q<f.blocks.length) (hbs:bs≠gb/\bs∉ic++oc) {x5:AV} :
 ∀ k h,k<ord.length->PI h0 f N p ci co bx gb bs ic oc ord ins0 (k+1) h->∃ e,(ord.map (fun(n:Nat)=>si (n:Int)))[k]?=some e/\W F jnp (.mk (jqu [x0,x1,x2,x3,x4,x5,x6,x7,.s (.ptr gb 0),.s (.ptr bx 0),x10,x11,x12,x13] 5 (.s e)) h) (fun ex s=>ex=.normal/\∃ fr' h',s=.mk fr' h'/\jq0 h' bs 0 0 0 ord.length (ord.map (fun(n:Nat)=>si (n:Int)))=true/\PI h0 f N p ci co bx gb bs ic oc ord ins0 k h'):=by
 rintro k h hk ⟨ins,outs,g,ps,xs,hs1,htot,hfx⟩
 obtain⟨q,hq⟩:∃ q,ord[k]?=some q:=⟨_,f0a hk⟩
 have hql:=hoq q (f0b hq)
 obtain⟨b,hb⟩:∃ b,f.blocks[q]?=some b:=⟨_,f0a hql⟩
 refine⟨si (q:Int),by rw[f0p,hq];rfl,?_⟩
 refine W.imp (qfw B ps lv hb) ?_
 rintro ex s ⟨rfl,fr',h',rfl,nx,gt,ps'⟩
 have xs':h'.get bs=some (.arr [jae jal ord] 27):=(gt bs hs1 hbs.1 hbs.2).trans xs
 refine⟨rfl,fr',h',rfl,j3x ho (qqa xs'),_,_,_,ps',xs',by omega,?_⟩
 cases hnw:j0w (ins.getD q []) (j03 N f.values.length b q ins outs) with
 | false =>
  rw[Bool.or_false]
  obtain⟨e1,e2,e3⟩:=ps.jj.same lv.n64 lv.lvb hb hnw
  rw[e1]
  refine⟨htot,fun hg=>?_⟩
  obtain⟨h1,h2⟩:=hfx hg
  refine⟨h1,fun j hj q' hq'=>?_⟩
  rcases Nat.eq_or_lt_of_le hj with rfl | hj
  .rw [hq] at hq';cases hq';exact e2
  .exact e3 _ (h2 j hj q' hq')
 | true =>
  rw[Bool.or_true,if_pos rfl]
  have:=qfh ps.jj lv.n64 lv.lvb hb hnw
  exact⟨by omega,fun hg=>by cases hg⟩
end
structure CmF (F:Fns):Prop where
 rd:RdF F
 bw:∀ vs h,jb9 F 41 vs h=none
def FRc (x0 x1 x2 x3 x4 x5 x6 x7 x10 x11 x12 x13:AV) (gb bx:Nat):List AV:=[x0,x1,x2,x3,x4,x5,x6,x7,.s (.ptr gb 0),.s (.ptr bx 0),x10,x11,x12,x13]
theorem quy {F:Fns} (B:CmF F) {h0:Hp} {N:Nat} (lv:LvOk f N) (ho:ord≠[]) (hol:ord.length<=1000) (hoq:∀ q∈ord,q<f.blocks.length) {Q:Ex->St->Prop}
 (hQ:∀ hj ins outs gb x3 x4 x5 x6 x7,PS h0 hj f N p ci co bx gb ic oc ins outs false->(∀ q∈ord,FxB f.blocks ins outs q)->Q (.exit 2) (.mk (FRc x0 (.s (jae jal ord)) x2 x3 x4 x5 x6 x7 x10 x11 x12 x13 gb bx) hj)) :
 ∀ (d:Nat) {hi:Hp} {ins outs:List (List Nat)} {gb:Nat} (_:PS h0 hi f N p ci co bx gb ic oc ins outs true) (_:f.blocks.length*(64*N)<=qh1 N ins+d) {x3 x4 x5 x6 x7:AV},
  WB F isB (.loop jqg) (.mk (FRc x0 (.s (jae jal ord)) x2 x3 x4 x5 x6 x7 x10 x11 x12 x13 gb bx) hi) Q:=by
 have lexit:∀ {hi:Hp} {ins outs:List (List Nat)} {gb:Nat} (_:PS h0 hi f N p ci co bx gb ic oc ins outs false) (_:∀ q∈ord,FxB f.blocks ins outs q) {x3 x4 x5 x6 x7:AV},
  WB F isB (.loop jqg) (.mk (FRc x0 (.s (jae jal ord)) x2 x3 x4 x5 x6 x7 x10 x11 x12 x13 gb bx) hi) Q:=by
  intro hi ins outs gb k hf x3 x4 x5 x6 x7
  have xg:=k.xg
  have hQ':=hQ hi ins outs gb x3 x4 x5 x6 (vb false) k hf
  unfold FRc at hQ' ⊢
  refine WB.loop ?_
  unfold jqg
  refine WB.seq (WB.seq (WB.c ?_))
  unfold j01
  simp(disch:=first|omega|rfl) only[go_sem,xg]
  refine WB.c ?_
  unfold j02
  simp(disch:=first|omega|rfl) only[go_sem]
  exact hQ'
 intro d
 induction d using Nat.strongRecOn with
 | _ d ih =>
 intro hi ins outs gb k hm x3 x4 x5 x6 x7
 obtain⟨b1,b2,b3,b4⟩:=k.bl
 have xg:=k.xg
 have ok:=k.ns.ok
 have hbx:bx∉p::ci::co::(ic++oc):=k.bb bx (by simp)
 have hgb:gb∉p::ci::co::(ic++oc):=k.bb gb (by simp)
 have hlt:∀ n∈p::ci::co::(ic++oc),n<hi.next:=fun n hn=>(k.ns.lt n hn).2
 obtain⟨hA,eA,okA,nA,xA,gA⟩:=jq7 ok b1 (some (.arr [.bool false] 4))
 have kA:PS h0 hA f N p ci co bx gb ic oc ins outs false:=⟨k.ns.keep okA (by omega) (fun n hn=>gA n (fun e=>hgb (e▸hn))),k.jj,(gA bx (fun e=>b4 e.symm)).trans k.xb,xA,⟨b1,by omega,by omega,b4⟩,k.bb,fun n hn=>(gA n (by have:=k.lo.1;omega)).trans (k.fr n hn),k.lo⟩
 unfold FRc
 refine WB.loop ?_
 unfold jqg
 refine WB.seq (WB.seq (WB.c ?_))
 unfold j01
 simp(disch:=first|omega|rfl) only[go_sem,xg]
 refine WB.c ?_
 unfold j02
 simp(disch:=first|omega|rfl) only[go_sem]
 refine WB.seq (WB.block (WB.seq (WB.c ?_)))
 unfold j3y
 simp(disch:=first|omega|rfl) only[go_sem,xg,eA]
 refine WB.seq (WB.c ?_)
 unfold j3z
 simp(disch:=first|omega|rfl) only[go_sem]
 refine WC.imp (qp9 (F:=F) okA (x:=jae jal ord) (B.bw _ _) (B.rd.T _)) ?_
 rintro _ hB ⟨rfl,okB,nB,xs,gB⟩
 simp(disch:=first|omega|rfl) only[go_sem]
 have hbs:hA.next≠gb/\hA.next∉ic++oc:=⟨by omega,fun h=>by have:=hlt hA.next (by simp only[f0e];exact .inr (.inr (.inr h)));omega⟩
 have kB:PS h0 hB f N p ci co bx gb ic oc ins outs false:=⟨kA.ns.keep okB (by omega) (fun n hn=>gB n (by have:=hlt n hn;omega)),k.jj,(gB bx (by omega)).trans kA.xb,(gB gb (by omega)).trans kA.xg,⟨b1,by omega,by omega,b4⟩,k.bb,fun n hn=>(gB n (by have:=k.lo.1;omega)).trans (kA.fr n hn),k.lo⟩
 refine WB.block (WB.back (gf:=60) (bs:=hA.next) (off:=0) (b:=0) (o:=0) (N:=ord.length) (PI h0 f N p ci co bx gb hA.next ic oc ord ins) rfl rfl (qqa xs) (qbd ho) (f1g.2 ho) (by omega) (j3x ho (qqa xs)) (qqb B.rd lv ho hoq hbs) ⟨ins,outs,false,kB,xs,by omega,by simp,fun _=>⟨rfl,fun j hj q hq=>by rw[f0j hj] at hq;cases hq⟩⟩ ?_)
 rintro hC ⟨ins',outs',g,kC,xsC,hs1,htot,hfx⟩
 have okC:=kC.ns.ok
 have xgC:=kC.xg
 obtain⟨c1,c2,c3,c4⟩:=kC.bl
 have hltC:∀ n∈p::ci::co::(ic++oc),1<=n/\n<hC.next:=kC.ns.lt
 obtain⟨hD,eD,okD,nD,xD,gD⟩:=jbt okC [.bool false] [.bool g] 4
 have kD:PS h0 hD f N p ci co bx hC.next ic oc ins' outs' g:=by
  refine⟨kC.ns.keep okD (by omega) (fun n hn=>gD n (hltC n hn).2),kC.jj,(gD bx c2).trans kC.xb,xD,⟨by omega,by omega,by omega,by omega⟩,fun n hn hm=>?_,fun n hn=>(gD n (by have:=kC.lo.1;omega)).trans (kC.fr n hn),by have:=kC.lo.1;omega,kC.lo.2⟩
  rcases f0e.1 hn with rfl | hn
  .exact hbx hm
  .obtain rfl:=f0k.1 hn
   have:=(hltC _ hm).2
   omega
 refine WB.seq (WB.c ?_)
 unfold j30
 simp(disch:=first|omega|rfl) only[go_sem,xgC]
 refine WB.c ?_
 unfold j31
 simp(disch:=first|omega|rfl) only[go_sem,eD]
 cases g with
 | false=>exact lexit kD (fun q hq=>by
  obtain⟨j,hj⟩:=f1w hq
  exact(hfx rfl).2 j (f2d _) q hj)
 | true =>
  rw[if_pos rfl] at htot
  have hmx:=ql6 (W:=N) ins'
  rw[kC.jj.li] at hmx
  cases d with
  | zero=>omega
  | succ d=>exact ih d (by omega) kD (by omega)
theorem Rows.bits {N:Nat} {rows:List (List SV)} {l ns:List Nat} (k:Rows 1 (EBt N) rows l ns):rows.flatten=l.map (jb4 N)/\ns=[]:=by
 induction k with
 | nil=>exact⟨rfl,rfl⟩
 | cons h1 h2 _ ih =>
  obtain⟨rfl,rfl⟩:=h2
  exact⟨by rw[f1j,ih.1];rfl,by rw[ih.2];rfl⟩
theorem Sl.bits {N:Nat} {x:SV} {l ns:List Nat} (k:Sl h ty 1 false (EBt N) x l ns) (hl:l≠[]):∃ c,x=.slice c 0 l.length l.length false 1/\h.get c=some (.arr (l.map (jb4 N)) ty)/\ns=[c]:=by
 rcases k with⟨h1,_,_⟩ | ⟨_,b,rows,nss,rfl,h2,h3,rfl⟩
 .exact absurd h1 hl
 .obtain ⟨e1,rfl⟩:=Rows.bits h3
  rw[e1] at h2
  exact⟨b,rfl,h2,rfl⟩
theorem j4a {n k:Nat} {x:List Nat} (h:k<n):(List.replicate n x).getD k []=x:=by
 rw[f0c,f2m,if_pos h];rfl
theorem CI.ns {N fx L:Nat} {ni no:List Nat} {xi xo:SV} (k:CI hi f N p bx fx L ic oc ni no xi xo) (hne:f.blocks≠[]) (hi1:ic.length=f.blocks.length) (ho1:oc.length=f.blocks.length) :
 ∃ ci co,NS hi f N p ci co ic oc (List.replicate f.blocks.length (jgy N)) (List.replicate f.blocks.length (jgy N))/\L<=ci/\L<=co/\bx∉p::ci::co::(ic++oc):=by
 have hp:=f1g.2 hne
 obtain⟨ci,rfl,gi,rfl⟩:=k.si.bits (by intro e;rw[e] at hi1;simp at hi1;omega)
 obtain⟨co,rfl,go,rfl⟩:=k.so.bits (by intro e;rw[e] at ho1;simp at ho1;omega)
 obtain⟨b1,b2,b3,b4,b5,b6,b7,b8,b9,b10⟩:=k.bl
 have l1:=k.lo ci (by simp)
 have l2:=k.lo co (by simp)
 have ll:∀ n∈ic++oc,L<=n/\n<hi.next:=fun n hn=>k.lo n (f06 _ hn)
 have n1:ci∉ic++oc:=k.hd ci (by simp)
 have n2:co∉ic++oc:=k.hd co (by simp)
 have n3:ci≠co:=fun e=>k.dj ci (by simp) (by simp[e])
 have xp:=k.xp
 rw[hi1,ho1] at xp
 refine⟨ci,co,⟨k.ok,xp,gi,go,hi1,ho1,by simp,by simp,fun j c hj=>?_,fun j c hj=>?_,?_,fun n hn=>?_⟩,l1.1,l2.1,fun hm=>?_⟩
 .rw [j4a (by have:=(f0h.1 hj).1;omega)]
  exact k.bi c (f06 _ (f0b hj))
 .rw [j4a (by have:=(f0h.1 hj).1;omega)]
  exact k.bi c (f00 _ (f0b hj))
 .refine f0v.2 ⟨fun hm=>?_,f0v.2 ⟨fun hm=>?_,f0v.2 ⟨n2,k.nd⟩⟩⟩
  .rcases f0e.1 hm with rfl | hm
   .omega
   .rcases f0e.1 hm with rfl | hm
    .omega
    .have:=ll p hm;omega
  .rcases f0e.1 hm with e | hm
   .exact n3 e
   .exact n1 hm
 .rcases f0e.1 hn with rfl | hn
  .exact ⟨b5,by omega⟩
  .rcases f0e.1 hn with rfl | hn
   .exact ⟨by omega,l1.2⟩
   .rcases f0e.1 hn with rfl | hn
    .exact ⟨by omega,l2.2⟩
    .have:=ll n hn;exact⟨by omega,this.2⟩
 .rcases f0e.1 hm with e | hm
  .exact b8 e
  .rcases f0e.1 hm with e | hm
   .omega
   .rcases f0e.1 hm with e | hm
    .omega
    .have:=ll bx hm;omega
theorem qfx (u:Nat):jbn [] u=false:=by
 have:=jqe 0 u
 exact this
theorem JJ.zero {N:Nat}:JJ f.values.length N f.blocks (List.replicate f.blocks.length (jgy N)) (List.replicate f.blocks.length (jgy N)):=by
 have hz:∀ k u,jbn ((List.replicate f.blocks.length (jgy N)).getD k []) u=false:=by
  intro k u
  rw[f0c,f2m]
  split
  .exact jqe N u
  .exact qfx u
 refine⟨by simp,by simp,fun x hx=>?_,fun x hx=>?_,fun k b _ u hu=>?_,fun k b _ u hu=>?_,fun RI RO _=>⟨fun k u hu=>?_,fun k u hu=>?_⟩⟩
 .rw [(List.mem_replicate.1 hx).2];exact jqd N
 .rw [(List.mem_replicate.1 hx).2];exact jqd N
 .rw [hz] at hu;cases hu
 .rw [hz] at hu;cases hu
 .rw [hz] at hu;cases hu
 .rw [hz] at hu;cases hu
def qvr:FB1:=⟨26,j34,2,12,[(.tmp 2)]⟩
def qyt (h:Hp) (f:Fc) (N:Nat) (ord:List Nat) (v:AV) (h':Hp):Prop :=
 ∃ p ci co ic oc ins outs,v=.s (.ptr p 0)/\NS h' f N p ci co ic oc ins outs/\JJ f.values.length N f.blocks ins outs/\(∀ q∈ord,FxB f.blocks ins outs q)/\h.next<=h'.next/\(∀ n,n<h.next->h'.get n=h.get n)
theorem j09 {F:Fns} (B:CmF F) (ok:Ok h) {N:Nat} (lv:LvOk f N) (hne:f.blocks≠[]) (ho:ord≠[]) (hol:ord.length<=1000) (hoq:∀ q∈ord,q<f.blocks.length) :
 WC (BX isB qvr F) 26 [.agg [jae jal f.values,jae jax f.blocks],.s (jae jal ord)] h (qyt h f N ord):=by
 refine qkt (q:=qvr) rfl ?_
 show WB F isB j34 (.mk ([.agg [jae jal f.values,jae jax f.blocks],.s (jae jal ord)]++jdb 12) h) (qc9 [(.tmp 2)] _)
 unfold j34
 have hpos:=ok.pos
 obtain⟨hA,eA,okA,nA,xA,gA⟩:=jde ok [jae jal f.values,jae jax f.blocks] 30
 refine WB.seq (WB.c ?_)
 unfold qbe
 simp(disch:=first|omega|rfl) only[go_sem,eA]
 obtain⟨hB,eB,okB,nB,xB,gB⟩:=jde okA [jae jal f.values,jae jax f.blocks,.nilSlice,.nilSlice] 83
 obtain⟨hC,eC,okC,nC,xC,gC⟩:=jbt okB [.nilPtr] [.ptr hA.next 0] 77
 refine WB.seq (WB.c ?_)
 unfold qbf
 simp(disch:=first|omega|rfl) only[go_sem,xA,eB,eC]
 have yA:hC.get h.next=some (.arr [jae jal f.values,jae jax f.blocks] 30):=(gC _ (by omega)).trans ((gB _ (by omega)).trans xA)
 have yB:hC.get hA.next=some (.arr [jae jal f.values,jae jax f.blocks,.nilSlice,.nilSlice] 83):=(gC _ (by omega)).trans xB
 have lb:=jaf (enc:=jax) (l:=f.blocks)
 refine WB.seq (WB.seq (WB.c ?_))
 unfold qbg
 simp(disch:=first|omega|rfl) only[go_sem,yA,lb]
 have k0:CI hC f N hA.next hB.next h.next hC.next [] [] [] [] .nilSlice .nilSlice:=⟨okC,xC,yA,yB,Sl.nil,Sl.nil,rfl,rfl,by simp,⟨by omega,by omega,by omega,by omega,by omega,by omega,by omega,by omega,by omega,f0f _⟩,by simp,by simp,by simp,by simp⟩
 refine WB.block (qhz B.rd (hv:=lv.nv) (hN:=lv.hN) (hb:=lv.nb) f.blocks.length 0 (by omega) k0 ⟨rfl,rfl⟩ (fun hj ic oc ni no xi xo x10 kj lj nj gj=>?_))
 have okj:=kj.ok
 obtain⟨ci,co,ns,l1,l2,hbx⟩:=kj.ns hne lj.1 lj.2
 obtain⟨hD,eD,okD,nD,xD,gD⟩:=jbt kj.ok [.bool false] [.bool true] 4
 have hlo:∀ n∈ic++oc,hC.next<=n/\n<hj.next:=fun n hn=>kj.lo n (f06 _ hn)
 have gA':∀ n,n<h.next->hj.get n=h.get n:=fun n hn=>(gj n (by omega) (by omega)).trans ((gC n (by omega)).trans ((gB n (by omega)).trans (gA n hn)))
 have kD:PS h hD f N hA.next ci co hB.next hj.next ic oc (List.replicate f.blocks.length (jgy N)) (List.replicate f.blocks.length (jgy N)) true:=by
  refine⟨ns.keep okD (by omega) (fun n hn=>gD n (ns.lt n hn).2),JJ.zero,(gD _ (by omega)).trans kj.xb,xD,⟨by omega,by omega,by omega,by omega⟩,fun n hn hm=>?_,fun n hn=>(gD n (by omega)).trans (gA' n hn),by omega,fun n hn=>by have:=hlo n hn;omega⟩
  rcases f0e.1 hn with rfl | hn
  .exact hbx hm
  .obtain rfl:=f0k.1 hn
   have:=(ns.lt _ hm).2
   omega
 refine WB.seq (WB.seq (WB.c ?_))
 unfold qbj
 simp(disch:=first|omega|rfl) only[go_sem,eD]
 refine WB.block (quy B lv ho hol hoq (fun hE ins outs gb x3 x4 x5 x6 x7 kE hfx=>?_) (f.blocks.length*(64*N)) kD (by omega))
 have xbE:=kE.xb
 unfold FRc
 refine WB.seq (WB.c ?_)
 unfold j32
 simp(disch:=first|omega|rfl) only[go_sem,xbE]
 refine WB.c ?_
 unfold j33
 simp(disch:=first|omega|rfl) only[go_sem]
 exact⟨_,_,_,_,_,_,_,rfl,kE.ns,kE.jj,hfx,by have:=kE.bl;have:=kE.lo;omega,kE.fr⟩
end Go.Proofs.Ytehhjbfmjdlcjaa.Ev
