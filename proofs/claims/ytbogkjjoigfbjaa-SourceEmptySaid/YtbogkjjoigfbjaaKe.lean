/- The runner of a function: an instruction, an edge. -/
import Derived.Test.YtbogkjjoigfbjaaKc
namespace Go.Proofs.Ytbogkjjoigfbjaa.Ev
open Go Go.RowKit Go.Proofs.Ytbogkjjoigfbjaa.Ms
attribute [local go_sem] Int.reduceToNat reduceCtorEq Nat.reduceAdd Nat.reduceMul Nat.reduceEqDiff Int.reduceEq Int.reduceLT Int.reduceLE Int.reduceNeg Int.reduceAdd Int.reduceSub Int.reduceMul Int.reduceNe
attribute [local go_sem ↓] reduceIte
set_option linter.all false
set_option maxRecDepth 100000
set_option maxHeartbeats 4000000
variable {x1 x2 x3 x4:AV} {Q:Ex->St->Prop} {P:List SV}
theorem fzl (vs:List Int):(vs.map jco).flatten.length=vs.length:=(j0z vs).len.2.trans (by simp)
theorem jvy:∀ vs:List Int,(vs.map jco).flatten=vs.map (fun v=>si v)
 | []=>rfl
 | v::vs=>by rw[List.map_cons,f1k,jvy vs];rfl
theorem rdZ {vs:List Int} {i:Nat} (hi:i<vs.length) {ty:TypeId}:rdB (some (.arr (vs.map jco).flatten ty)) i 1=some [si (vs.getD i 0)]:=by
 apply jn4
 rw[jvy,f1j,f0c,f0f hi]
 rfl
theorem wrZ {vs:List Int} {i:Nat} (hi:i<vs.length) (n:Int):jbg i [si n] (vs.map jco).flatten=some ((vs.set i n).map jco).flatten:=by
 refine(jcj _).2 ⟨?_,?_⟩
 .rw [fzl];simp;omega
 .rw [jvy,jvy,List.map_set]
  rw[List.set_eq_take_append_cons_drop,if_pos (by simpa using hi)]
  simp
theorem j2u {c L i:Nat} {ex:Bool} (hi:i<L):jwo 1 (.s (.slice c 0 L L ex 1)) (vi (i:Int))=some (.s (.ptr c i)):=by
 rw[jch hi]
 simp
section
variable {lo:Nat} {f:Fc} {seed:Int} {p v:Nat} {left:Int} {es:SV} {evs:List Evt}
theorem j6d (hp:p<lo) (hv:v<lo) {vs:List Int} {L:Nat} (hL:vs.length=L) {ops:List Ms.Opd} (hl:ops.length<=1000) (ho:∀ o∈ops,o.value<L) (hvs:∀ n∈vs,0<=n/\n<1000003) (hP4:P[4]?=some (.slice v 0 L L true 1)) {ty:TypeId} {x5 x6 x7 x8 x9 x10 x11 x19:AV} (hlo:1<=lo) :
 ∀ (d i:Nat) (_:i+d=ops.length) {hi:Hp} (_:Ok hi) (_:lo<=hi.next) (_:hi.get p=some (.arr P ty)) (_:hi.get v=some (.arr (vs.map jco).flatten 3)) {a:SV} (_:Gs lo hi 3 1 EZ a ((ops.take i).foldl (rdF vs) [])) {x13 x14 x16:AV}
  (hQ:∀ hj a x13 x14 x16,Ok hj->hi.next<=hj.next->(∀ n,n<lo->hj.get n=hi.get n)->Gs lo hj 3 1 EZ a (j2p ops vs)->Q (.exit 0) (.mk [.s (.ptr p 0),x1,x2,x3,x4,x5,x6,x7,x8,x9,x10,x11,.s a,x13,x14,.s (jbj jm4 ops),x16,vi ops.length,vi ops.length,x19] hj)),
  W F16 jj5.loop (.mk [.s (.ptr p 0),x1,x2,x3,x4,x5,x6,x7,x8,x9,x10,x11,.s a,x13,x14,.s (jbj jm4 ops),x16,vi ops.length,vi i,x19] hi) Q
 | 0,i,hd,hi,ok,hn,xp,xv,a,k,x13,x14,x16,hQ=>by
  obtain rfl:i=ops.length:=by omega
  rw[f18] at k
  rw[jdk]
  unfold jj5
  simp(disch:=first|omega|rfl) only[go_sem,f2u]
  exact hQ hi a _ _ _ ok (f0b _) (fun _ _=>rfl) k
 | d+1,i,hd,hi,ok,hn,xp,xv,a,k,x13,x14,x16,hQ=>by
  have hil:i<ops.length:=by omega
  have hlt:(i:Int)<(ops.length:Int):=by omega
  have hs:(i:Int)+1=((i+1:Nat):Int):=by omega
  obtain⟨o,hio⟩:∃ o,ops[i]?=some o:=⟨_,f0f hil⟩
  have hov:=ho o (f0h hio)
  have hix:=jbe (enc:=jm4) (size:=5) hio rfl
  have ht:(ops.take (i+1)).foldl (rdF vs) []=rdF vs ((ops.take i).foldl (rdF vs) []) o:=by rw[List.take_add_one,hio,List.foldl_append];rfl
  obtain⟨hA,eA,okA,nA,xA,gA⟩:=j0p ok [.int .i64 0,.int .i64 0,.bool false,.int .i64 0,.int .i64 0] (jm4 o) 81
  have kA:Gs lo hA 3 1 EZ a ((ops.take i).foldl (rdF vs) []):=k.imp (fun n h1 h2=>gA n h2) (by omega) (fun _ _ _ _ e=>e)
  have pA:=(gA p (by omega)).trans xp
  have vA:=(gA v (by omega)).trans xv
  unfold jm4 at xA eA
  rw[jdk]
  unfold jj5 jvm
  by_cases e:o.kind=1
  .have c1:((o.kind:Int)=1)=True:=eq_true (by omega)
   have hlen:((ops.take i).foldl (rdF vs) []).length<=100000:=by
    have:∀ (l:List Ms.Opd) (r:List Int),(l.foldl (rdF vs) r).length<=r.length+l.length:=by
     intro l
     induction l with
     | nil=>intro r;simp
     | cons a l ih =>
      intro r
      have h1:=ih (rdF vs r a)
      have h2:(rdF vs r a).length<=r.length+1:=by unfold rdF;split<;>simp
      simp only[List.foldl_cons,f08]
      omega
    have h1:=this (ops.take i) []
    have h2:(ops.take i).length<=ops.length:=by simp;omega
    simp only[f1l] at h1
    omega
   obtain⟨a',hF,eF,okF,nF,gF,kF⟩:=kA.app1 (bytes:=8) (h1:=hA) (row:=[si (vs.getD o.value 0)]) (a:=vs.getD o.value 0) (ms:=[]) (E1:=EZ) (E2:=fun _=>EZ) (fun _ _ _ _ e=>e) okA (f0b _) (fun _ _=>rfl) (by omega) hlo
    ⟨rfl,rfl⟩ .nil (fun n hn=>by simp at hn) rfl (by omega) (by omega) (fun h2 _ row a m e hm=>e)
   have hr:rdF vs ((ops.take i).foldl (rdF vs) []) o=(ops.take i).foldl (rdF vs) []++[vs.getD o.value 0]:=by unfold rdF;rw[if_pos e]
   rw[←hr,←ht] at kF
   have hsl:=j2u (c:=v) (ex:=true) hov
   have hrz:=rdZ (vs:=vs) (i:=o.value) (by omega) (ty:=3)
   have hrp:rdB (some (.arr P ty)) 4 1=some [.slice v 0 L L true 1]:=jn4 hP4
   simp(disch:=first|omega|rfl) only[go_sem,jb2,eq_true hlt,hix,jm4,eA,xA,c1,pA,vA,hsl,hrz,hrp,eF,hs]
   exact j6d hp hv hL hl ho hvs hP4 hlo d (i+1) (by omega) okF (by omega) ((gF p hp).trans pA) ((gF v hv).trans vA) kF (fun hj a x13 x14 x16 o' n' g' k'=>hQ hj a x13 x14 x16 o' (by omega) (fun n hn'=>(g' n hn').trans ((gF n hn').trans (gA n (by omega)))) k')
  .have c1:((o.kind:Int)=1)=False:=eq_false (by omega)
   have hr:rdF vs ((ops.take i).foldl (rdF vs) []) o=(ops.take i).foldl (rdF vs) []:=by unfold rdF;rw[if_neg e]
   rw[←hr,←ht] at kA
   simp(disch:=first|omega|rfl) only[go_sem,jb2,eq_true hlt,hix,jm4,eA,xA,c1,hs]
   exact j6d hp hv hL hl ho hvs hP4 hlo d (i+1) (by omega) okA (by omega) pA vA kA (fun hj a x13 x14 x16 o' n' g' k'=>hQ hj a x13 x14 x16 o' (by omega) (fun n hn'=>(g' n hn').trans (gA n (by omega))) k')
theorem j6e {lw:Nat} (hp:p<lw) (hv:1<=v/\v<lw) (pv:p≠v) {L:Nat} {x:Ms.Ins} (hx:x.op<=255) (hsd:In6 seed) (hl:x.ops.length<=1000) (ho:∀ o∈x.ops,o.value<L) {rd:List Int} (hrd:∀ n∈rd,0<=n/\n<1000003) (hrl:rd.length<=10000) (hP2:P[2]?=some (si seed)) (hP4:P[4]?=some (.slice v 0 L L true 1)) {ty:TypeId} {a:SV} {ns:List Nat} (hns:∀ n∈ns,n<lw/\n≠v) {bX:Nat} (hbX:bX<lw/\bX≠v) {fin:List Int} {x13 x14 x15 x16 x17 x18:AV} :
 ∀ (d i:Nat) (_:i+d=x.ops.length) {hi:Hp} (_:Ok hi) (_:lw<=hi.next) (_:hi.get p=some (.arr P ty)) {vs:List Int} (_:vs.length=L) (_:hi.get v=some (.arr (vs.map jco).flatten 3)) (_:hi.get bX=some (.arr (jnx x) 78)) (_:Sl hi 3 1 false EZ a rd ns) (_:jt8 seed x rd (x.ops.drop i) i vs=fin) {x5 x6 x7 x9:AV}
  (hQ:∀ hj x5 x6 x7 x9,Ok hj->hi.next<=hj.next->(∀ n,n<lw->n≠v->hj.get n=hi.get n)->hj.get v=some (.arr (fin.map jco).flatten 3)->Q (.exit 2) (.mk [.s (.ptr p 0),x1,x2,x3,x4,x5,x6,x7,.s (jbj jm4 x.ops),x9,vi x.ops.length,vi x.ops.length,.s a,x13,x14,x15,x16,x17,x18,.s (.ptr bX 0)] hj)),
  W F16 jj6.loop (.mk [.s (.ptr p 0),x1,x2,x3,x4,x5,x6,x7,.s (jbj jm4 x.ops),x9,vi x.ops.length,vi i,.s a,x13,x14,x15,x16,x17,x18,.s (.ptr bX 0)] hi) Q
 | 0,i,hd,hi,ok,hn,xp,vs,hL,xv,xX,s,hf,x5,x6,x7,x9,hQ=>by
  obtain rfl:i=x.ops.length:=by omega
  rw[List.drop_length] at hf
  have hf':vs=fin:=hf
  subst hf'
  rw[jdk]
  unfold jj6
  simp(disch:=first|omega|rfl) only[go_sem,f2u]
  exact hQ hi _ _ _ _ ok (f0b _) (fun _ _ _=>rfl) xv
 | d+1,i,hd,hi,ok,hn,xp,vs,hL,xv,xX,s,hf,x5,x6,x7,x9,hQ=>by
  have hil:i<x.ops.length:=by omega
  have hlt:(i:Int)<(x.ops.length:Int):=by omega
  have hs:(i:Int)+1=((i+1:Nat):Int):=by omega
  obtain⟨o,hio⟩:∃ o,x.ops[i]?=some o:=⟨_,f0f hil⟩
  have hov:=ho o (f0h hio)
  have hix:=jbe (enc:=jm4) (size:=5) hio rfl
  have hdr:x.ops.drop i=o::x.ops.drop (i+1):=by
   rw[f05 hil]
   congr 1
   exact(f0n.1 hio).2
  rw[hdr] at hf
  unfold jt8 at hf
  obtain⟨hA,eA,okA,nA,xA,gA⟩:=j0p ok [.int .i64 0,.int .i64 0,.bool false,.int .i64 0,.int .i64 0] (jm4 o) 81
  have pA:=(gA p (by omega)).trans xp
  have vA:=(gA v (by omega)).trans xv
  have XA:=(gA bX (by omega)).trans xX
  have sA:=s.keep (h':=hA) (fun n hn'=>gA n (by have:=hns n hn';omega))
  unfold jm4 at xA eA
  rw[jdk]
  unfold jj6 jvn
  by_cases e:o.kind=2
  .have c1:((o.kind:Int)=2)=True:=eq_true (by omega)
   rw[if_pos e] at hf
   have hrp4:rdB (some (.arr P ty)) 4 1=some [.slice v 0 L L true 1]:=jn4 hP4
   have hrp2:rdB (some (.arr P ty)) 2 1=some [si seed]:=jn4 hP2
   have hsl:=j2u (c:=v) (ex:=true) hov
   have hmd:=jt6 ([seed,(x.op:Int),(i:Int)]++rd)
   obtain⟨hC,eC,okC,nC,xC,gC⟩:=j84 okA hv.1 (some (.arr ((vs.set o.value (jt7 seed x i rd)).map jco).flatten 3))
   have hwz:=wrZ (vs:=vs) (i:=o.value) (by omega) (jt7 seed x i rd)
   have xX':hA.get bX=some (.arr [si x.op,jbj jm4 x.ops,jbj j81 x.spoils] 78):=XA
   have hmade:∀ {lo:Nat} {Q:AV->Hp->Prop},WC F16 51 [vi seed,.agg [si x.op,jbj jm4 x.ops,jbj j81 x.spoils],vi i,.s a] (hA.hide lo []) Q=Q (vi (jt7 seed x i rd)) (hA.hide lo []):=fun {lo Q}=>jw0 okA sA hsd hx (by omega) hrd hrl
   simp(disch:=first|omega|rfl) only[go_sem,jb2,eq_true hlt,hix,jm4,eA,xA,c1,pA,vA,hrp4,hrp2,hsl,xX',hmade,hwz,eC,hs]
   exact j6e hp hv pv hx hsd hl ho hrd hrl hP2 hP4 hns hbX d (i+1) (by omega) okC (by omega) ((gC p pv).trans pA) (by rw[List.length_set];exact hL) xC ((gC bX hbX.2).trans XA) (sA.keep (fun n hn'=>gC n (hns n hn').2)) hf (fun hj x5 x6 x7 x9 o' n' g' k'=>hQ hj x5 x6 x7 x9 o' (by omega) (fun n h1 h2=>(g' n h1 h2).trans ((gC n h2).trans (gA n (by omega)))) k')
  .have c1:((o.kind:Int)=2)=False:=eq_false (by omega)
   rw[if_neg e] at hf
   simp(disch:=first|omega|rfl) only[go_sem,jb2,eq_true hlt,hix,jm4,eA,xA,c1,hs]
   exact j6e hp hv pv hx hsd hl ho hrd hrl hP2 hP4 hns hbX d (i+1) (by omega) okA (by omega) pA hL vA XA sA hf (fun hj x5 x6 x7 x9 o' n' g' k'=>hQ hj x5 x6 x7 x9 o' (by omega) (fun n h1 h2=>(g' n h1 h2).trans (gA n (by omega))) k')
end
theorem Gs.app2 {α:Type} {lo ty sz:Nat} {E:List SV->α->List Nat->Prop} {h:Hp} {x:SV} {l:List α} {bytes:Nat} {h1:Hp} {row:List SV} {a:α} {ms:List Nat} {E1:List SV->α->List Nat->Prop} {E2:Hp->List SV->α->List Nat->Prop} (k:Gs lo h ty sz E x l) (hk:∀ row a m,(∀ n∈m,lo<=n/\n<h.next)->E row a m->E1 row a m) (ok:Ok h1) (hn:h.next<=h1.next) (g:∀ n,lo<=n->n<h.next->h1.get n=h.get n) (hlo:lo<=h.next) (hl1:1<=lo)
 (hE:E1 row a ms) (hms:ms.Nodup) (hm:∀ n∈ms,h.next<=n/\n<h1.next) (hr:row.length=sz) (h1b:(l.length+1)*bytes<=1000000000) (h2b:l.length+1<=1000000000)
 (hE2:∀ h2,(∀ n∈ms,h2.get n=h1.get n)->∀ row a m,E1 row a m->(∀ n∈m,h2.get n=h1.get n)->E2 h2 row a m) :
 ∃ x' h2,jrm (h1.push (.arr row ty)) ty sz bytes (.s x) (.s (.slice h1.next 0 1 1 true sz))=some (.s x',h2)/\Ok h2/\h1.next<=h2.next/\(∀ n,n<lo->h2.get n=h1.get n)/\Gs lo h2 ty sz (E2 h2) x' (l++[a]):=by
 obtain⟨ns,s,nd,lt⟩:=k
 have s1:Sl h1 ty sz false E1 x l ns:=s.imp (fun n hn=>g n (lt n hn).1 (lt n hn).2) (fun row a m hmm e=>hk row a m (fun n hn=>lt n (hmm n hn)) e)
 obtain⟨h2,e2,ok2,n2,kp2,kt2,sl2⟩:=s1.app1 (bytes:=bytes) ok (fun n hn'=>by have:=lt n hn';omega) hr hE h1b h2b
 have kms:∀ n∈ms,h2.get n=h1.get n:=fun n hn'=>kp2 n (hm n hn').2 (fun hc=>by have:=lt n hc;have:=hm n hn';omega)
 refine⟨_,h2,e2,ok2,by omega,fun n hn'=>kp2 n (by omega) (fun hc=>by have:=lt n hc;omega),_,sl2 (fun row a m hmm e=>hE2 h2 kms row a m e (fun n hn'=>?_)),?_,?_⟩
 .rcases hmm n hn' with hc | hc
  .exact kt2 n hc nd
  .exact kms n hc
 .refine jho nd hms (fun n hn' hc=>?_) (fun hc=>?_) (fun hc=>?_)
  .have:=lt n hc;have:=hm n hn';omega
  .have:=lt _ hc;omega
  .have:=hm _ hc;omega
 .intro n hn'
  rcases f0o.1 hn' with rfl | hn'
  .omega
  .rcases f0i.1 hn' with hc | hc
   .have:=lt n (f09 hc);omega
   .have:=hm n hc;omega
theorem jrz (vs:List Int):∀ (l:List Ms.Opd) (r:List Int),(l.foldl (rdF vs) r).length<=r.length+l.length
 | [],r=>by simp
 | a::l,r=>by
  have h1:=jrz vs l (rdF vs r a)
  have h2:(rdF vs r a).length<=r.length+1:=by unfold rdF;split<;>simp
  simp only[List.foldl_cons,f08]
  omega
section
variable {lo:Nat} {h:Hp} {f:Fc} {seed:Int} {p v:Nat} {left:Int} {vs:List Int} {es:SV} {evs:List Evt}
theorem j2v (r:RS lo h f seed p v left vs es evs) (rn:RnOk f) (hsd:In6 seed) (g:jvg f vs) {k i:Nat} {b:Ms.Blk} (hb:f.blocks[k]?=some b) {x:Ms.Ins} (hx:b.instrs[i]?=some x) (hev:evs.length<=10000) :
 WC F16 28 [.s (.ptr p 0),vi k,vi i] h (fun u h'=>u=vi (jht seed k b i x vs).1.edge/\∃ es',RS lo h' f seed p v left (jht seed k b i x vs).2 es' (evs++[(jht seed k b i x vs).1])/\h.next<=h'.next/\∀ n,n<lo->n≠p->n≠v->h'.get n=h.get n):=by
 refine jf9 (j8g rfl rfl rfl) j8e rfl ?_
 unfold j0x
 have ok:=r.ok
 have hp:=r.hp
 have hv:=r.hv
 have hlo:=r.hlo
 have mb:=f0h hb
 have mx:=f0h hx
 obtain⟨ho1,ho2,ho3⟩:=rn.ops b mb x mx
 have hbl:=rn.blk b mb
 have hnb:=rn.nb
 have hk:=(f0n.1 hb).1
 have hi:=(f0n.1 hx).1
 have hixb:=jbe (enc:=jfp) (size:=3) hb rfl
 have hixx:=jbe (enc:=jnx) (size:=3) hx rfl
 obtain⟨hA,eA,okA,nA,xA,gA⟩:=j0p ok [.int .i64 0,.nilSlice,.nilSlice] (jnx x) 78
 have pA:=(gA p (by omega)).trans r.xp
 have vA:=(gA v (by omega)).trans r.xv
 have xp:=r.xp
 have lo1:=jbd (enc:=jm4) (l:=x.ops)
 unfold jnx at xA eA
 simp(disch:=first|omega|rfl) only[go_sem,xp,hixb,jfp,hixx,jnx,eA,xA,lo1]
 refine j6d (lo:=hA.next) (by omega) (by omega) (L:=f.values.length) g.1 (ops:=x.ops) (by omega) ho3 g.2 rfl (by omega) x.ops.length 0 (by omega) okA (f0b _) pA vA .nil (fun hB a x13 x14 x16 okB nB gB kB=>?_)
 obtain⟨ns,sB,ndB,ltB⟩:=kB
 have xB:=(gB _ (by omega)).trans xA
 obtain⟨rd,erd⟩:∃ rd,j2p x.ops vs=rd:=⟨_,rfl⟩
 have hrd:∀ n∈rd,0<=n/\n<1000003:=fun n hn=>jvh g.2 x.ops [] (by simp) n (by rw[←erd] at hn;exact hn)
 have hrl:rd.length<=6:=by
  have:=jrz vs x.ops []
  rw[←erd]
  unfold j2p
  simp only[f1l] at this
  omega
 rw[erd] at sB
 simp(disch:=first|omega|rfl) only[go_sem,xB,lo1]
 refine j6e (lw:=hB.next) (by omega) ⟨hv.1,by omega⟩ r.pv (L:=f.values.length) ho1 hsd (by omega) ho3 hrd (by omega) rfl rfl (a:=a) (ns:=ns) (fun n hn=>by have:=ltB n hn;omega) (bX:=h.next) ⟨by omega,by omega⟩ (fin:=jt8 seed x rd x.ops 0 vs) x.ops.length 0 (by omega) okB (f0b _) ((gB p (by omega)).trans pA) g.1 ((gB v (by omega)).trans vA) xB sB rfl (fun hC x5 x6 x7 x9 okC nC gC xvC=>?_)
 have pC:=(gC p (by omega) r.pv).trans ((gB p (by omega)).trans pA)
 have sC:=sB.keep (h':=hC) (fun n hn=>gC n (by have:=ltB n hn;omega) (by have:=ltB n hn;omega))
 have hst:jht seed k b i x vs=(⟨k,i,rd,jb9 seed b i x rd⟩,jt8 seed x rd x.ops 0 vs):=by unfold jht;simp only[erd]
 rw[hst]
 simp only
 obtain⟨w,ew⟩:∃ w,jb9 seed b i x rd=w:=⟨_,rfl⟩
 have htk:∀ {Q:AV->Hp->Prop},WC F16 52 [vi seed,.agg [jbj jgy b.params,jbj jnx b.instrs,jbj j3m b.edges],vi i,.s a] hC Q=Q (vi w) hC:=fun {Q}=>by
  rw[←ew]
  exact jw1 sC hsd hx ho1 (by omega) (by omega) hrd (by omega)
 obtain⟨hD,eD,okD,nD,xD,gD⟩:=jrv okC [si k,si i,a,si w] 73
 have gAC:∀ n,lo<=n->n<hA.next->hC.get n=hA.get n:=fun n h1 h2=>by rw[gC n (by omega) (by omega),gB n h2]
 have kA:=r.evk (h':=hA) (fun n h1 h2=>gA n h2) (by omega)
 obtain⟨es',hE,eE,okE,nE,gE,kE⟩:=kA.app2 (bytes:=48) (h1:=hC) (row:=[si k,si i,a,si w]) (a:=(⟨k,i,rd,w⟩:Evt)) (ms:=ns) (E1:=EVt hC) (E2:=fun h=>EVt h) (fun row a m hm e=>e.keep (fun n hn=>gAC n (hm n hn).1 (hm n hn).2)) okC (by omega) gAC (by omega) (by omega)
  ⟨a,false,rfl,sC⟩ ndB (fun n hn=>by have:=ltB n hn;omega) rfl (by omega) (by omega) (fun h2 _ row a m e hm=>e.keep hm)
 have pE:=(gE p (by omega)).trans pC
 rw[eD] at eE
 obtain⟨hF,eF,okF,nF,xF,gF⟩:=j84 okE hp.1 (some (.arr [jbj jgy f.values,jbj jfp f.blocks,si seed,si left,.slice v 0 f.values.length f.values.length true 1,es'] 69))
 simp(disch:=first|omega|rfl) only[go_sem,pC,hixb,jfp,htk,eD,eE,pE,eF]
 rw[ew]
 refine⟨rfl,es',⟨okF,xF,(gF v (fun e=>r.pv e.symm)).trans ((gE v (by omega)).trans xvC),kE.imp (fun n h1 h2=>gF n (by omega)) (by omega) (fun row a m hm e=>e.keep (fun n hn=>gF n (by have:=hm n hn;omega))),hp,hv,r.pv,by omega⟩,by omega,fun n h1 h2 h3=>?_⟩
 rw[gF n h2,gE n h1,gC n (by omega) h3,gB n (by omega),gA n (by omega)]
end
end Go.Proofs.Ytbogkjjoigfbjaa.Ev
