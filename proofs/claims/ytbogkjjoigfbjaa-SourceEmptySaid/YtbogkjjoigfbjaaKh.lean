/- The runner of a function: an edge is followed. -/
import Derived.Test.YtbogkjjoigfbjaaKe
namespace Go.Proofs.Ytbogkjjoigfbjaa.Ev
open Go Go.RowKit Go.Proofs.Ytbogkjjoigfbjaa.Ms
attribute [local go_sem] Int.reduceToNat reduceCtorEq Nat.reduceAdd Nat.reduceMul Nat.reduceEqDiff Int.reduceEq Int.reduceLT Int.reduceLE Int.reduceNeg Int.reduceAdd Int.reduceSub Int.reduceMul Int.reduceNe
attribute [local go_sem ↓] reduceIte
set_option linter.all false
set_option maxRecDepth 100000
set_option maxHeartbeats 4000000
variable {x0 x1 x2 x3 x4 x5 x6 x8 x14 x17 x18 x19 x20:AV} {kk:Bool} {Q:Ex->St->Prop} {e:Int} {P:List SV} {k n:Nat}
theorem juc {F:Fns} {st fr:List AV} {es:List Ent} {h:Hp} {dst:Option Nat} {l:List (IOper×Option (List Nat))} {e:TypeId} {size bytes m:Nat} {z:List SV} {ol oc:Od} {js:List Nat} (k:Ok h) (hx:ev st fr ol=some (vi m)) (hy:ev st fr oc=some (vi m)) (hs:sel es js []=some []) (h1:bytes*m<=1000000000) (h2:m<=1000000000) :
 WD F ((.mk dst (.a (.mkslice e size bytes z ol oc)) none,some js)::l) st es fr h Q=WD F l (.s (.slice h.next 0 m m true size)::st) (.mk [(h.next,Nat.succ h.next)] (some [])::es) (jba fr dst (.s (.slice h.next 0 m m true size))) (h.push (.arr (rep z m) e)) Q:=by
 rw[jsv (x:=some (DR.mk (.s (.slice h.next 0 m m true size)) (h.push (.arr (rep z m) e)) (.mk [(h.next,Nat.succ h.next)] (some [])))) (fun cl=>?_)]
 .exact ja0
 .cases h with
  | mk n1 t lo hid =>
  obtain rfl:hid=[]:=k.hid
  obtain rfl:lo=0:=k.lo
  have hi:iop cl st fr (.mk n1 t n1 []) (.a (.mkslice e size bytes z ol oc))=some (.s (.slice n1 0 m m true size),.mk (Nat.succ n1) (t.put (Nat.succ n1) n1 (some (.arr (rep z m) e))) n1 []):=by
   show ob (ev st fr ol) (fun v=>ob (ev st fr oc) (fun u=>j6q (.mk n1 t n1 []) e size bytes z v u))=_
   rw[hx,hy]
   show oif (Nat.ble m m) (oif (Nat.ble (Nat.mul bytes m) 1000000000) (oif (Nat.ble m 1000000000) (nw (.mk n1 t n1 []) (rep z m) e _) none) none) none=_
   rw[jct (f0b m),jct h2,show Nat.ble (Nat.mul bytes m) 1000000000=true from jct h1]
   rfl
  show ob (sel es js []) (fun hid'=>jhv cl st fr n1 t 0 n1 [] hid' (.a (.mkslice e size bytes z ol oc)) (fun n'=>.mk [(n1,n')] (some [])))=_
  rw[hs]
  show ob (iop cl st fr (.mk n1 t n1 []) (.a (.mkslice e size bytes z ol oc))) _=_
  rw[hi]
  rfl
section
variable {lo:Nat} {h:Hp} {f:Fc} {seed:Int} {p v:Nat} {left:Int} {es:SV} {evs:List Evt}
theorem j8h (hp:p<lo) (hv:v<lo) {vs:List Int} {L:Nat} (hL:vs.length=L) {args:List Nat} (hl:args.length<=10000) (ho:∀ u∈args,u<L) (hP4:P[4]?=some (.slice v 0 L L true 1)) {ty:TypeId} {x7:AV} (hlo:1<=lo) :
 ∀ (d i:Nat) (_:i+d=args.length) {hi:Hp} (_:Ok hi) (_:lo<=hi.next) (_:hi.get p=some (.arr P ty)) (_:hi.get v=some (.arr (vs.map jco).flatten 3)) {a:SV} (_:Gs lo hi 3 1 EZ a ((args.take i).map (fun u=>vs.getD u 0))) {x8 x11:AV}
  (hQ:∀ hj a x8 x11,Ok hj->hi.next<=hj.next->(∀ n,n<lo->hj.get n=hi.get n)->Gs lo hj 3 1 EZ a (args.map (fun u=>vs.getD u 0))->Q (.exit 0) (.mk [.s (.ptr p 0),x1,x2,x3,x4,x5,x6,x7,x8,.s a,.s (jbj jgy args),x11,vi args.length,vi args.length,x14] hj)),
  W F16 jj7.loop (.mk [.s (.ptr p 0),x1,x2,x3,x4,x5,x6,x7,x8,.s a,.s (jbj jgy args),x11,vi args.length,vi i,x14] hi) Q
 | 0,i,hd,hi,ok,hn,xp,xv,a,k,x8,x11,hQ=>by
  obtain rfl:i=args.length:=by omega
  rw[f18] at k
  rw[jdk]
  unfold jj7
  simp(disch:=first|omega|rfl) only[go_sem,f2u]
  exact hQ hi a _ _ ok (f0b _) (fun _ _=>rfl) k
 | d+1,i,hd,hi,ok,hn,xp,xv,a,k,x8,x11,hQ=>by
  have hil:i<args.length:=by omega
  have hlt:(i:Int)<(args.length:Int):=by omega
  have hs:(i:Int)+1=((i+1:Nat):Int):=by omega
  obtain⟨u,hiu⟩:∃ u,args[i]?=some u:=⟨_,f0f hil⟩
  have huv:=ho u (f0h hiu)
  have hix:=jbe (enc:=jgy) (size:=1) hiu rfl
  have ht:(args.take (i+1)).map (fun u=>vs.getD u 0)=(args.take i).map (fun u=>vs.getD u 0)++[vs.getD u 0]:=by rw[List.take_add_one,hiu,List.map_append];rfl
  have hlen:((args.take i).map (fun u=>vs.getD u 0)).length<=10000:=by rw[f1t,f1w];omega
  obtain⟨a',hF,eF,okF,nF,gF,kF⟩:=k.app1 (bytes:=8) (h1:=hi) (row:=[si (vs.getD u 0)]) (a:=vs.getD u 0) (ms:=[]) (E1:=EZ) (E2:=fun _=>EZ) (fun _ _ _ _ e=>e) ok (f0b _) (fun _ _=>rfl) (by omega) hlo
   ⟨rfl,rfl⟩ .nil (fun n hn=>by simp at hn) rfl (by omega) (by omega) (fun h2 _ row a m e hm=>e)
  rw[←ht] at kF
  have hsl:=j2u (c:=v) (ex:=true) huv
  have hrz:=rdZ (vs:=vs) (i:=u) (by omega) (ty:=3)
  have hrp:rdB (some (.arr P ty)) 4 1=some [.slice v 0 L L true 1]:=jn4 hP4
  rw[jdk]
  unfold jj7 jvo
  simp(disch:=first|omega|rfl) only[go_sem,jb2,eq_true hlt,hix,jgy,xp,xv,hsl,hrz,hrp,eF,hs]
  exact j8h hp hv hL hl ho hP4 hlo d (i+1) (by omega) okF (by omega) ((gF p hp).trans xp) ((gF v hv).trans xv) kF (fun hj a x8 x11 o' n' g' k'=>hQ hj a x8 x11 o' (by omega) (fun n hn'=>(g' n hn').trans (gF n hn')) k')
theorem j8i {lw:Nat} (hp:p<lw) (hv:1<=v/\v<lw) (pv:p≠v) {L:Nat} {ps:List Nat} {xs:List Int} (hpx:ps.length=xs.length) (hl:ps.length<=10000) (ho:∀ u∈ps,u<L) (hP4:P[4]?=some (.slice v 0 L L true 1)) {ty:TypeId} {a:SV} {ns:List Nat} (hns:∀ n∈ns,n<lw/\n≠v) {fin:List Int} {x10 x11 x12 x13:AV} :
 ∀ (d i:Nat) (_:i+d=ps.length) {hi:Hp} (_:Ok hi) (_:lw<=hi.next) (_:hi.get p=some (.arr P ty)) {vs:List Int} (_:vs.length=L) (_:hi.get v=some (.arr (vs.map jco).flatten 3)) (_:Sl hi 3 1 false EZ a xs ns) (_:j1c (ps.drop i) (xs.drop i) vs=fin) {x2 x3 x5:AV}
  (hQ:∀ hj x2 x3 x5,Ok hj->hi.next<=hj.next->(∀ n,n<hi.next->n≠v->hj.get n=hi.get n)->hj.get v=some (.arr (fin.map jco).flatten 3)->Q (.exit 2) (.mk [.s (.ptr p 0),x1,x2,x3,.s (jbj jgy ps),x5,vi ps.length,vi ps.length,x8,.s a,x10,x11,x12,x13,x14] hj)),
  W F16 jj8.loop (.mk [.s (.ptr p 0),x1,x2,x3,.s (jbj jgy ps),x5,vi ps.length,vi i,x8,.s a,x10,x11,x12,x13,x14] hi) Q
 | 0,i,hd,hi,ok,hn,xp,vs,hL,xv,s,hf,x2,x3,x5,hQ=>by
  obtain rfl:i=ps.length:=by omega
  rw[List.drop_length] at hf
  have hf':vs=fin:=by unfold j1c at hf;exact hf
  subst hf'
  rw[jdk]
  unfold jj8
  simp(disch:=first|omega|rfl) only[go_sem,f2u]
  exact hQ hi _ _ _ ok (f0b _) (fun _ _ _=>rfl) xv
 | d+1,i,hd,hi,ok,hn,xp,vs,hL,xv,s,hf,x2,x3,x5,hQ=>by
  have hil:i<ps.length:=by omega
  have hix':i<xs.length:=by omega
  have hlt:(i:Int)<(ps.length:Int):=by omega
  have hs:(i:Int)+1=((i+1:Nat):Int):=by omega
  obtain⟨u,hiu⟩:∃ u,ps[i]?=some u:=⟨_,f0f hil⟩
  obtain⟨n,hin⟩:∃ n,xs[i]?=some n:=⟨_,f0f hix'⟩
  have huv:=ho u (f0h hiu)
  have hix:=jbe (enc:=jgy) (size:=1) hiu rfl
  have hd1:ps.drop i=u::ps.drop (i+1):=by
   rw[f05 hil];congr 1;exact(f0n.1 hiu).2
  have hd2:xs.drop i=n::xs.drop (i+1):=by
   rw[f05 hix'];congr 1;exact(f0n.1 hin).2
  rw[hd1,hd2] at hf
  unfold j1c at hf
  obtain⟨bb,row,ms,e1,e2,e3,⟨rfl,_⟩,_,hbn⟩:=s.at hin
  have hbv:=hns bb hbn
  have hrp4:rdB (some (.arr P ty)) 4 1=some [.slice v 0 L L true 1]:=jn4 hP4
  have hsl:=j2u (c:=v) (ex:=true) huv
  obtain⟨hC,eC,okC,nC,xC,gC⟩:=j84 ok hv.1 (some (.arr ((vs.set u n).map jco).flatten 3))
  have hwz:=wrZ (vs:=vs) (i:=u) (by omega) n
  rw[jdk]
  unfold jj8 jvp
  simp(disch:=first|omega|rfl) only[go_sem,jb2,eq_true hlt,hix,jgy,xp,xv,e1,e2,hrp4,hsl,hwz,eC,hs]
  exact j8i hp hv pv hpx hl ho hP4 hns d (i+1) (by omega) okC (by omega) ((gC p pv).trans xp) (by rw[List.length_set];exact hL) xC (s.keep (fun n hn'=>gC n (hns n hn').2)) hf (fun hj x2 x3 x5 o' n' g' k'=>hQ hj x2 x3 x5 o' (by omega) (fun n h1 h2=>(g' n (by omega) h2).trans (gC n h2)) k')
theorem j2w {vs:List Int} (r:RS lo h f seed p v left vs es evs) (rn:RnOk f) (g:jvg f vs) {d:Ms.Edg} {t:Ms.Blk} (ht:f.blocks[d.block]?=some t) (hpa:t.params.length=d.args.length) (hda:∀ u∈d.args,u<f.values.length) (htp:∀ u∈t.params,u<f.values.length) :
 WC F16 29 [.s (.ptr p 0),.agg [si d.block,jbj jgy d.args]] h (fun u h'=>RS lo h' f seed p v left (j3w f d vs) es evs/\h.next<=h'.next/\∀ n,n<h.next->n≠v->h'.get n=h.get n):=by
 refine jf9 (j8g rfl rfl rfl) j8f rfl ?_
 unfold j0y
 have ok:=r.ok
 have hp:=r.hp
 have hv:=r.hv
 have hlo:=r.hlo
 have mt:=f0h ht
 have htl:=rn.blk t mt
 have hixt:=jbe (enc:=jfp) (size:=3) ht rfl
 obtain⟨hA,eA,okA,nA,xA,gA⟩:=jrv ok [si d.block,jbj jgy d.args] 52
 have pA:=(gA p (by omega)).trans r.xp
 have vA:=(gA v (by omega)).trans r.xv
 have la:=jbd (enc:=jgy) (l:=d.args)
 have lp:=jbd (enc:=jgy) (l:=t.params)
 simp(disch:=first|omega|rfl) only[go_sem,eA,xA,la]
 refine j8h (lo:=hA.next) (by omega) (by omega) (L:=f.values.length) g.1 (args:=d.args) (by omega) hda rfl (by omega) d.args.length 0 (by omega) okA (f0b _) pA vA .nil (fun hB a x8 x11 okB nB gB kB=>?_)
 obtain⟨ns,sB,ndB,ltB⟩:=kB
 have xB:=(gB _ (by omega)).trans xA
 have pB:=(gB p (by omega)).trans pA
 have vB:=(gB v (by omega)).trans vA
 simp(disch:=first|omega|rfl) only[go_sem,xB,pB,hixt,jfp,lp]
 have hfol:j1c t.params (d.args.map (fun u=>vs.getD u 0)) vs=j3w f d vs:=by
  unfold j3w
  rw[f0c,ht]
  rfl
 refine j8i (lw:=hB.next) (by omega) ⟨hv.1,by omega⟩ r.pv (L:=f.values.length) (ps:=t.params) (xs:=d.args.map (fun u=>vs.getD u 0)) (by rw[f1t];exact hpa) (by omega) htp rfl (a:=a) (ns:=ns) (fun n hn=>by have:=ltB n hn;omega) (fin:=j3w f d vs) t.params.length 0 (by omega) okB (f0b _) pB g.1 vB sB hfol (fun hC x2 x3 x5 okC nC gC xvC=>?_)
 simp(disch:=first|omega|rfl) only[go_sem]
 have keep:∀ n,n<h.next->n≠v->hC.get n=h.get n:=fun n h1 h2=>by rw[gC n (by omega) h2,gB n (by omega),gA n h1]
 exact⟨⟨okC,(keep p (by omega) r.pv).trans r.xp,xvC,r.evk (fun n h1 h2=>keep n h2 (by omega)) (by omega),hp,hv,r.pv,by omega⟩,by omega,keep⟩
end
def j02 (e:Evt):List SV:=[si e.block,si e.at_,jbj jco e.read,si e.edge]
theorem j6f {h:Hp} {lo:Nat} {es:SV} {evs:List Evt} (k:Gs lo h 73 4 (EVt h) es evs):jia kk h 3 es=some (jbj j02 evs):=by
 obtain⟨ns,s,_⟩:=k
 exact s.frz (enc:=j02) (d:=2) (fun row a ms e=>by
  obtain⟨r,ex,rfl,s⟩:=e
  exact jdb rfl (jdb rfl (jdb (qaq (d:=0) s) (jjx rfl)))) (fun _=>rfl)
section
variable {lo:Nat} {h:Hp} {f:Fc} {seed:Int} {p v:Nat} {left:Int} {vs:List Int} {es:SV} {evs:List Evt}
theorem RS.ext {h':Hp} (r:RS lo h f seed p v left vs es evs) (ok:Ok h') (hn:h.next<=h'.next) (g:∀ n,n<h.next->h'.get n=h.get n):RS lo h' f seed p v left vs es evs:=by
 have hp:=r.hp
 have hv:=r.hv
 have hlo:=r.hlo
 exact⟨ok,(g p (by omega)).trans r.xp,(g v (by omega)).trans r.xv,r.evk (fun n _ h2=>g n h2) hn,hp,hv,r.pv,by omega⟩
theorem j8j {i:Nat} {b:Ms.Blk} (hb:f.blocks[k]?=some b) {x:Ms.Ins} (hx:b.instrs[i]?=some x):goS f seed (n+1) k i vs e=(jht seed k b i x vs).1::goS f seed n k (i+1) (jht seed k b i x vs).2 (jht seed k b i x vs).1.edge:=by
 have hd:f.blocks.getD k jdd=b:=by rw[f0c,hb];rfl
 conv=>lhs;unfold goS
 rw[hd,hx]
theorem j6g {b:Ms.Blk} (hb:f.blocks[k]?=some b) (he:b.edges[e.toNat]?=none):goS f seed n k b.instrs.length vs e=[]:=by
 have hd:f.blocks.getD k jdd=b:=by rw[f0c,hb];rfl
 cases n with
 | zero=>rfl
 | succ n =>
  unfold goS
  rw[hd,f0m (f0b _),he]
def j2x (f:Fc) (seed:Int) (n k:Nat) (vs:List Int):List Evt:=match n with
 | 0=>[]
 | n+1=>goS f seed n k 0 vs 0
theorem j2y {b:Ms.Blk} (hb:f.blocks[k]?=some b) {d:Ms.Edg} (he:b.edges[e.toNat]?=some d):goS f seed n k b.instrs.length vs e=j2x f seed n d.block (j3w f d vs):=by
 have hd:f.blocks.getD k jdd=b:=by rw[f0c,hb];rfl
 cases n with
 | zero=>rfl
 | succ n =>
  conv=>lhs;unfold goS
  rw[hd,f0m (f0b _),he]
  rfl
theorem j31 (rn:RnOk f) (hsd:In6 seed) {b:Ms.Blk} (hb:f.blocks[k]?=some b) {fb:Nat} (hfb:fb<lo/\fb≠p/\fb≠v) {fin:List Evt} (hfl:fin.length<=10000) {N:Nat} (hN:N<=100000) {x15:AV}
 (hR:∀ hj left vs es x7 x9 x10 x11 x12 x13,RS lo hj f seed p v left vs es fin->Q .ret (.mk [x0,x1,x2,x3,vi 0,.s es,x6,x7,x8,x9,x10,x11,x12,x13,vi k,x15,.s (.ptr p 0),x17,x18,x19,x20,.s (.ptr fb 0)] hj)) {x4 x5:AV}
 (hE:∀ hj (n':Nat) vs' e' es' evs' x9 x10 x11,n'<=N->evs'++goS f seed n' k b.instrs.length vs' e'=fin->GoOk f k b.instrs.length vs' e'->RS lo hj f seed p v n' vs' es' evs'->hj.get fb=some (.arr [jbj jgy f.values,jbj jfp f.blocks] 26)->Q (.exit 2) (.mk [x0,x1,x2,x3,x4,x5,x6,vi e',x8,x9,x10,x11,vi b.instrs.length,vi b.instrs.length,vi k,x15,.s (.ptr p 0),x17,x18,x19,x20,.s (.ptr fb 0)] hj)) :
 ∀ (d i n:Nat) (_:i+d=b.instrs.length) (_:n<=N) {hi:Hp} {vs:List Int} {e:Int} {es:SV} {evs:List Evt} (_:RS lo hi f seed p v n vs es evs) (_:GoOk f k i vs e) (_:evs++goS f seed n k i vs e=fin) (_:hi.get fb=some (.arr [jbj jgy f.values,jbj jfp f.blocks] 26)) {x9 x10 x11:AV},
  W F16 jj9.loop (.mk [x0,x1,x2,x3,x4,x5,x6,vi e,x8,x9,x10,x11,vi b.instrs.length,vi i,vi k,x15,.s (.ptr p 0),x17,x18,x19,x20,.s (.ptr fb 0)] hi) Q
 | 0,i,n,hd,hn,hi,vs,e,es,evs,r,g,hf,xf,x9,x10,x11=>by
  obtain rfl:i=b.instrs.length:=by omega
  rw[jdk]
  unfold jj9
  simp(disch:=first|omega|rfl) only[go_sem,f2u]
  exact hE hi n vs e es evs _ _ _ hn hf g r xf
 | d+1,i,n,hd,hn,hi,vs,e,es,evs,r,g,hf,xf,x9,x10,x11=>by
  have hil:i<b.instrs.length:=by omega
  have hlt:(i:Int)<(b.instrs.length:Int):=by omega
  have hs:(i:Int)+1=((i+1:Nat):Int):=by omega
  have hbl:=rn.blk b (f0h hb)
  obtain⟨x,hx⟩:∃ x,b.instrs[i]?=some x:=⟨_,f0f hil⟩
  rw[jdk]
  unfold jj9 jvs
  simp(disch:=first|omega|rfl) only[go_sem,jb2,eq_true hlt]
  refine WC.imp (jmu r (by omega)) ?_
  rintro _ hA ⟨rfl,rA,nA,gA⟩
  have okA:=rA.ok
  have pA:=rA.xp
  cases n with
  | zero =>
   have c1:(0<=((0:Nat):Int) - 1)=False:=eq_false (by omega)
   have hf':evs=fin:=by rw[←hf];simp[goS]
   rw[hf'] at rA
   simp(disch:=first|omega|rfl) only[go_sem,c1,pA]
   exact hR hA _ _ _ _ _ _ _ _ _ rA
  | succ m =>
   have c1:(0<=((m+1:Nat):Int) - 1)=True:=eq_true (by omega)
   have hm:((m+1:Nat):Int) - 1=(m:Int):=by omega
   rw[hm] at rA
   simp(disch:=first|omega|rfl) only[go_sem,c1]
   unfold jvr
   simp(disch:=first|omega|rfl) only[go_sem]
   rw[j8j hb hx] at hf
   have hev:evs.length<=10000:=by rw[←hf] at hfl;simp only[f0s] at hfl;omega
   refine WC.imp (j2v rA rn hsd g.vo hb hx hev) ?_
   rintro _ hB ⟨rfl,es',rB,nB,gB⟩
   have hdb:f.blocks.getD k jdd=b:=by rw[f0c,hb];rfl
   have gn:=g.next (seed:=seed) (x:=x) (by rw[hdb];exact hx)
   rw[hdb] at gn
   simp(disch:=first|omega|rfl) only[go_sem,jb2,hs]
   refine j31 rn hsd hb hfb hfl hN hR hE d (i+1) m (by omega) (by omega) rB gn ?_ ?_
   .rw [f0u];exact hf
   .rw [gB fb hfb.1 hfb.2.1 hfb.2.2,gA fb hfb.2.1];exact xf
theorem j32 (rn:RnOk f) (hsd:In6 seed) {fb:Nat} (hfb:fb<lo/\fb≠p/\fb≠v) {fin:List Evt} (hfl:fin.length<=10000)
 (hR:∀ hj left vs es x6 x7 x8 x9 x10 x11 x12 x13 x14 x15,RS lo hj f seed p v left vs es fin->Q .ret (.mk [x0,x1,x2,x3,vi 0,.s es,x6,x7,x8,x9,x10,x11,x12,x13,x14,x15,.s (.ptr p 0),x17,x18,x19,x20,.s (.ptr fb 0)] hj))
 (hX:∀ hj left vs es x6 x7 x8 x9 x10 x11 x12 x13 x14 x15,RS lo hj f seed p v left vs es fin->Q (.exit 0) (.mk [x0,x1,x2,x3,x4,x5,x6,x7,x8,x9,x10,x11,x12,x13,x14,x15,.s (.ptr p 0),x17,x18,x19,x20,.s (.ptr fb 0)] hj)) :
 ∀ (M N k:Nat) (_:N<=M) (_:M<=100000) {hi:Hp} {vs:List Int} {es:SV} {evs:List Evt} (_:RS lo hi f seed p v N vs es evs) (_:GoOk f k 0 vs 0) (_:evs++j2x f seed N k vs=fin) (_:hi.get fb=some (.arr [jbj jgy f.values,jbj jfp f.blocks] 26)) {x6 x7 x8 x9 x10 x11 x12 x13 x15:AV},
  W F16 jka.loop (.mk [x0,x1,x2,x3,x4,x5,x6,x7,x8,x9,x10,x11,x12,x13,vi k,x15,.s (.ptr p 0),x17,x18,x19,x20,.s (.ptr fb 0)] hi) Q
 | M,0,k,hN,hM,hi,vs,es,evs,r,g,hf,xf,x6,x7,x8,x9,x10,x11,x12,x13,x15=>by
  rw[jdk]
  unfold jka
  simp(disch:=first|omega|rfl) only[go_sem]
  refine WC.imp (jmu r (by omega)) ?_
  rintro _ hA ⟨rfl,rA,nA,gA⟩
  have c1:(0<=((0:Nat):Int) - 1)=False:=eq_false (by omega)
  have hf':evs=fin:=by rw[←hf];simp[j2x]
  rw[hf'] at rA
  simp(disch:=first|omega|rfl) only[go_sem,c1]
  exact hX hA _ _ _ _ _ _ _ _ _ _ _ _ _ rA
 | 0,n+1,k,hN,hM,hi,vs,es,evs,r,g,hf,xf,x6,x7,x8,x9,x10,x11,x12,x13,x15=>by omega
 | M+1,n+1,k,hN,hM,hi,vs,es,evs,r,g,hf,xf,x6,x7,x8,x9,x10,x11,x12,x13,x15=>by
  obtain⟨b,hb⟩:∃ b,f.blocks[k]?=some b:=⟨_,f0f g.kb⟩
  have mb:=f0h hb
  have hixb:=jbe (enc:=jfp) (size:=3) hb rfl
  have li:=jbd (enc:=jnx) (l:=b.instrs)
  have le:=jbd (enc:=j3m) (l:=b.edges)
  have hdb:f.blocks.getD k jdd=b:=by rw[f0c,hb];rfl
  rw[jdk]
  unfold jka
  simp(disch:=first|omega|rfl) only[go_sem]
  refine WC.imp (jmu r (by omega)) ?_
  rintro _ hA ⟨rfl,rA,nA,gA⟩
  have c1:(0<=((n+1:Nat):Int) - 1)=True:=eq_true (by omega)
  have hm:((n+1:Nat):Int) - 1=(n:Int):=by omega
  rw[hm] at rA
  have xA:=(gA fb hfb.2.1).trans xf
  simp(disch:=first|omega|rfl) only[go_sem,c1]
  unfold jvu
  simp(disch:=first|omega|rfl) only[go_sem,xA,hixb,jfp,li]
  refine j31 rn hsd hb hfb hfl (N:=n) (by omega) (fun hj left vs es x7 x9 x10 x11 x12 x13 rj=>?_) (fun hj n' vs' e' es' evs' x9 x10 x11 hn' hf' g' rj xj=>?_) b.instrs.length 0 n (by omega) (f0b _) rA g hf xA
  .simp (disch:=first|omega|rfl) only[go_sem]
   exact hR hj _ _ _ _ _ _ _ _ _ _ _ _ _ rj
  .have okj:=rj.ok
   by_cases he:b.edges=[]
   .have c2:((b.edges.length:Int)=0)=True:=eq_true (by rw[he];rfl)
    have hf2:evs'=fin:=by
     rw[j6g hb (by rw[he];rfl),List.append_nil] at hf'
     exact hf'
    rw[hf2] at rj
    simp(disch:=first|omega|rfl) only[go_sem,xj,hixb,jfp,le,c2]
    exact hX hj _ _ _ _ _ _ _ _ _ _ _ _ _ rj
   .have hel:=f1h.2 he
    have c2:((b.edges.length:Int)=0)=False:=eq_false (by omega)
    have hge:=g'.eb
    rw[hdb] at hge
    obtain⟨he1,he2⟩:=hge rfl he
    obtain⟨q,rfl⟩:=Int.eq_ofNat_of_zero_le he1
    obtain⟨d,hd⟩:∃ d,b.edges[q]?=some d:=⟨_,f0f (by omega)⟩
    obtain⟨t,ht,hpa,hda,htp⟩:=rn.edg b mb d (f0h hd)
    have hixe:=jbe (enc:=j3m) (size:=2) hd rfl
    have hq:((q:Int)).toNat=q:=rfl
    rw[j2y hb (d:=d) (by rw[hq];exact hd)] at hf'
    obtain⟨hD,eD,okD,nD,xD,gD⟩:=j0p okj [.int .i64 0,.nilSlice] (j3m d) 52
    have rD:=rj.ext okD (by omega) gD
    have xfD:=(gD fb (by have:=rj.hlo;omega)).trans xj
    have gj:=g'.jump rn (d:=d) (by rw[hdb,hq];exact hd)
    unfold j3m at eD xD
    simp(disch:=first|omega|rfl) only[go_sem,xj,hixb,jfp,le,c2]
    unfold jvt
    simp(disch:=first|omega|rfl) only[go_sem,xj,hixb,jfp,hixe,j3m,eD,xD]
    refine WC.imp (j2w rD rn g'.vo ht hpa hda htp) ?_
    rintro u hF ⟨rF,nF,gF⟩
    have okF:=rF.ok
    have hlv:=rj.hlo
    have hvv:=rj.hv
    have xDF:=(gF hj.next (by omega) (by omega)).trans xD
    have xfF:=(gF fb (by omega) hfb.2.2).trans xfD
    simp(disch:=first|omega|rfl) only[go_sem,xDF]
    exact j32 rn hsd hfb hfl hR hX M n' d.block (by omega) (by omega) rF gj hf' xfF
end
def j6s (l:List Evt):AV:=.tup [(false,[jbj j02 l]),(false,[si 0])]
theorem j03 {h:Hp} {lo:Nat} {es:SV} {evs:List Evt} (k:Gs lo h 73 4 (EVt h) es evs):jib kk h 3 (.tup [(false,[es]),(false,[.int .i64 0])])=some (j6s evs):=by
 show ob (ob (jh9 (jia kk h 3) [es]) (fun x=>ob (j3h (jia kk h 3) [(false,[.int .i64 0])]) (fun r=>some ((false,x)::r)))) (fun y=>some (AV.tup y))=_
 rw[jjx (j6f k)]
 rfl
theorem j04 (x:SV):∀ n,rep [x] n=(List.replicate n [x]).flatten
 | 0=>rfl
 | n+1=>by
  have h:rep [x] (n+1)=jeo [x] (rep [x] n):=rfl
  rw[h,jcb,j04 x n];rfl
theorem j05 (f:Fc) (seed:Int) (n:Nat):jvf f seed n=j2x f seed n 0 (List.replicate f.values.length 0):=by
 cases n<;>rfl
theorem j2z (f:Fc) (seed:Int) (n:Nat):(jvf f seed n).length<=n:=by
 cases n with
 | zero=>simp[jvf]
 | succ n=>exact f1e (jt9 f seed n _ _ _ _)
theorem j6h {h:Hp} (ok:Ok h) {m:Nat×Nat} {f:Fc} (rn:RnOk f) (hne:f.blocks≠[]) (hK:∀ h Q,WC F16 11 [.agg [jbj jgy f.values,jbj jfp f.blocks],.agg [si m.1,si m.2]] h Q=Q (vi 0) h) {seed:Int} (hsd:In6 seed) {steps:Nat} (hst:steps<=5000) :
 WC F16 13 [.agg (jw4 f),.agg [si m.1,si m.2],vi seed,vi steps] h (fun v h'=>∃ d,jib kk h' d v=some (j6s (jvf f seed steps))):=by
 refine jf9 (j8g rfl rfl rfl) j3y rfl ?_
 unfold jub
 have hnv:=rn.nv
 have hpos:=ok.pos
 obtain⟨hA,eA,okA,nA,xA,gA⟩:=jrv ok [jbj jgy f.values,jbj jfp f.blocks] 26
 obtain⟨hB,eB,okB,nB,xB,gB⟩:=jrv okA [si m.1,si m.2] 30
 have yA:=(gB _ (by omega)).trans xA
 have nB':hB.next=h.next+2:=by omega
 have lv:=jbd (enc:=jgy) (l:=f.values)
 rw[nA] at xB
 unfold jw4
 simp(disch:=first|omega|rfl) only[go_sem,eA,eB,nA,yA,xB,hK]
 have c1:((steps:Int)<0)=False:=eq_false (by omega)
 have c2:(5000<(steps:Int))=False:=eq_false (by omega)
 unfold jqg
 simp(disch:=first|omega|rfl) only[go_sem,c1,c2]
 unfold jvv jvq
 simp(disch:=first|omega|rfl) only[go_sem,yA,lv]
 rw[juc okB rfl rfl rfl (by omega) (by omega)]
 obtain⟨hC,eC,okC,nC,xC,gC⟩:=jrv okB (rep [.int .i64 0] f.values.length) 3
 obtain⟨hD,eD,okD,nD,xD,gD⟩:=jrv okC [jbj jgy f.values,jbj jfp f.blocks,si seed,si steps,.slice hB.next 0 f.values.length f.values.length true 1,.nilSlice] 69
 have r:RS hD.next hD f seed hC.next hB.next steps (List.replicate f.values.length 0) .nilSlice []:=by
  refine⟨okD,xD,?_,.nil,⟨by omega,by omega⟩,⟨by omega,by omega⟩,by omega,f0b _⟩
  rw[gD _ (by omega),xC,j04,List.map_replicate]
  rfl
 have xf:=(gD h.next (by omega)).trans ((gC _ (by omega)).trans yA)
 simp(disch:=first|omega|rfl) only[go_sem,eC,eD]
 refine j32 rn hsd (fb:=h.next) ⟨by omega,by omega,by omega⟩ (fin:=jvf f seed steps) (by have:=j2z f seed steps;omega) (fun hj left vs es x6 x7 x8 x9 x10 x11 x12 x13 x14 x15 rj=>?_) (fun hj left vs es x6 x7 x8 x9 x10 x11 x12 x13 x14 x15 rj=>?_) steps steps 0 (f0b _) (by omega) r (rn.start hne) (by rw[f1m,j05]) xf
 .simp (disch:=first|omega|rfl) only[go_sem]
  exact⟨3,j03 rj.ev⟩
 .have okj:=rj.ok
  have pj:=rj.xp
  simp(disch:=first|omega|rfl) only[go_sem,pj]
  exact⟨3,j03 rj.ev⟩
end Go.Proofs.Ytbogkjjoigfbjaa.Ev
