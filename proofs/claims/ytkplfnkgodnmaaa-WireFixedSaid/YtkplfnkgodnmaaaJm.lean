/- A function's own lists, whatever their elements; what is laid behind them. -/
import Derived.Test.YtkplfnkgodnmaaaJi
namespace Go.Proofs.Ytkplfnkgodnmaaa.Ev
open Go Go.RowKit
set_option linter.all false
set_option maxRecDepth 100000
def OL {α:Type} (ty sz:Nat) (enc:α->List SV) (h:Hp) (x:SV) (l:List α) (b:Nat):Prop :=
 (l=[]/\x=.nilSlice/\b=0)∨(l≠[]/\x=.slice b 0 l.length l.length false sz/\1<=b/\b<h.next/\h.get b=some (.arr (l.flatMap enc) ty))
section
variable {α:Type} {ty sz:Nat} {enc:α->List SV} {h h1:Hp} {x:SV} {l:List α} {b:Nat}
theorem jih (hs:∀ a,(enc a).length=sz):∀ l:List α,(l.flatMap enc).length=l.length*sz
 | []=>by simp
 | a::l=>by rw[f1n,f0g,jih hs l,hs,f03,f2v,Nat.one_mul,Nat.add_comm]
theorem OL.nil:OL ty sz enc h .nilSlice [] 0:=.inl ⟨rfl,rfl,rfl⟩
theorem OL.keep (k:OL ty sz enc h x l b) (hn:h.next<=h1.next) (g:1<=b->b<h.next->h1.get b=h.get b):OL ty sz enc h1 x l b:=by
 rcases k with k | ⟨h2,rfl,h3,h4,h5⟩
 .exact .inl k
 .exact .inr ⟨h2,rfl,h3,by omega,by rw[g h3 h4];exact h5⟩
theorem OL.len (k:OL ty sz enc h x l b):jlz (.s x)=some (vi l.length):=by
 rcases k with⟨rfl,rfl,_⟩ | ⟨_,rfl,_⟩<;>rfl
theorem OL.lt (k:OL ty sz enc h x l b) (ok:Ok h):b<h.next:=by
 have:=ok.pos
 rcases k with⟨_,_,rfl⟩ | ⟨_,_,_,h4,_⟩<;>omega
theorem OL.app (k:OL ty sz enc h x l b) (hs:∀ a,(enc a).length=sz) (ok:Ok h) {cs:List α} (hc:cs≠[]) {bytes:Nat} (hb:(l.length+cs.length)*bytes<=1000000000) (hb2:l.length+cs.length<=1000000000) :
 ∃ x' h2,jjv (h.push (.arr (cs.flatMap enc) ty)) ty sz bytes (.s x) (.s (.slice h.next 0 cs.length cs.length true sz))=some (.s x',h2)/\Ok h2/\h2.next=h.next+2/\(∀ n,n<h.next->(n≠b∨b=0)->h2.get n=h.get n)/\OL ty sz enc h2 x' (l++cs) (h.next+1):=by
 have ok1:Ok (h.push (.arr (cs.flatMap enc) ty)):=jb4 ok
 have hcl:1<=cs.length:=f21.2 hc
 have hrd:rdB ((h.push (.arr (cs.flatMap enc) ty)).get h.next) 0 (cs.length*sz)=some (cs.flatMap enc):=by
  rw[jaq ok,if_pos rfl,jdm]
  exact(jam _).2 ⟨by show cs.length*sz<=(cs.flatMap enc).length;rw[jih hs];omega,by show cs.flatMap enc=(cs.flatMap enc).take (cs.length*sz);rw[f2n (by rw[jih hs];omega)]⟩
 obtain⟨q,hq⟩:∃ q,cs.length=q+1:=⟨cs.length - 1,by omega⟩
 rcases k with⟨rfl,rfl,rfl⟩ | ⟨h2,rfl,h3,h4,h5⟩
 .refine ⟨.slice (h.next+1) 0 cs.length cs.length false sz,(h.push (.arr (cs.flatMap enc) ty)).push (.arr (cs.flatMap enc) ty),?_,jb4 ok1,by simp,fun n hn _=>?_,.inr ⟨by simpa using hc,by simp,by omega,by simp,?_⟩⟩
  .rw [jda,hrd,hq]
   simp only[f1j,f0y,hq] at hb hb2
   show jft bytes (q+1) (nw _ (cs.flatMap enc) ty _)=_
   rw[jgw hb hb2,jmr ok1]
   rfl
  .rw [jaq ok1,if_neg (by rw[Hp.next_push];omega),jaq ok,if_neg (by omega)]
  .rw [jaq ok1,if_pos (by rw[Hp.next_push])];simp
 .have e5:(h.push (.arr (cs.flatMap enc) ty)).get b=some (.arr (l.flatMap enc) ty):=by rw[jaq ok,if_neg (by omega)];exact h5
  refine⟨.slice (h.next+1) 0 (l.length+cs.length) (l.length+cs.length) false sz,((h.push (.arr (cs.flatMap enc) ty)).put b none).push (.arr (l.flatMap enc++cs.flatMap enc) ty),?_,jb4 (jdf ok1),by simp,fun n hn hnb=>?_,.inr ⟨by simp[hc],by simp,by omega,by simp,?_⟩⟩
  .rw [jfp hcl,hrd,e5]
   show qkb _ _ _ _ _ _ _ _ (cs.flatMap enc)=_
   rw[j0n ok1 (jih hs l) hb hb2]
   simp
  .rw [jaq (jdf ok1),if_neg (by simp;omega),jba ok1 (by omega),if_neg (show ¬ n=b by omega),jaq ok,if_neg (by omega)]
  .rw [jaq (jdf ok1),if_pos (by simp)];simp
end
open Go Go.RowKit Go.Proofs.Ytkplfnkgodnmaaa.Ms
variable {x0 x1:AV} {f:Fc} {h':Hp} {s:List Bool} {p js:List Nat} {k t b':Nat}
attribute [local go_sem] Int.reduceToNat reduceCtorEq Nat.reduceAdd Nat.reduceMul Nat.reduceEqDiff Int.reduceEq Int.reduceLT Int.reduceLE Int.reduceNeg Int.reduceAdd Int.reduceSub Int.reduceMul Int.reduceNe
attribute [local go_sem ↓] reduceIte
set_option maxHeartbeats 8000000
def Eg (f:Fc) (p x:Nat):Prop:=∃ b,f.blocks[p]?=some b/\∃ e∈b.edges,e.block=x
def Bh (f:Fc) (b:Nat):List Nat->Prop
 | []=>True
 | x::l=>((∃ p∈l,Eg f p x)∨Eg f b x)/\Bh f b l
theorem Bh.app {b:Nat} {M:List Nat} (hM:Bh f b M):∀ {L:List Nat},Bh f b L->Bh f b (L++M)
 | [],_=>hM
 | x::l,⟨h1,h2⟩=>⟨h1.imp (fun⟨p,hp,e⟩=>⟨p,f2g _ hp,e⟩) id,Bh.app hM h2⟩
theorem Bh.last {b c:Nat} (hc:Eg f b c):∀ {L:List Nat},Bh f c L->Bh f b (L++[c])
 | [],_=>⟨.inr hc,trivial⟩
 | x::l,⟨h1,h2⟩=>⟨.inl (by rcases h1 with⟨p,hp,e⟩ | e;(exact⟨p,f2g _ hp,e⟩);exact⟨c,f19 _ (List.mem_singleton_self c),e⟩),Bh.last hc h2⟩
def cf (l:List Bool):Nat:=l.count false
theorem j3f:∀ {l:List Bool} {i:Nat},l[i]?=some false->cf (l.set i true)+1=cf l
 | [],i,h=>by simp at h
 | a::l,0,h=>by
  obtain rfl:a=false:=by simpa using h
  simp[cf]
 | a::l,i+1,h=>by
  have ih:=j3f (l:=l) (i:=i) (by simpa using h)
  cases a<;>simp[cf] at ih ⊢<;>omega
def Li (f:Fc) (b:Nat) (s0:List Bool) (p0:List Nat) (s:List Bool) (p:List Nat):Prop :=
 ∃ L,p=p0++L/\Bh f b L/\L.Nodup/\(∀ (x:Nat),x∈L->s0[x]?=some false/\s[x]?=some true)/\(∀ (x:Nat),s0[x]?=some true->s[x]?=some true)/\p.length+cf s<=p0.length+cf s0/\cf s<=cf s0/\s.length=s0.length
def OrR (f:Fc) (b:Nat) (s0:List Bool) (p0:List Nat) (s:List Bool) (p:List Nat):Prop :=
 ∃ L,p=p0++(L++[b])/\Bh f b L/\(L++[b]).Nodup/\(∀ (x:Nat),x∈L++[b]->s0[x]?=some false/\s[x]?=some true)/\(∀ (x:Nat),s0[x]?=some true->s[x]?=some true)/\p.length+cf s<=p0.length+cf s0/\cf s<=cf s0/\s.length=s0.length
theorem Li.self {b:Nat} {s0:List Bool} {p0:List Nat}:Li f b s0 p0 s0 p0:=⟨[],by simp,trivial,List.nodup_nil,by simp,fun _ h=>h,f0d _,f0d _,rfl⟩
theorem Li.step {b c:Nat} {s0 s':List Bool} {p0 p':List Nat} (a:Li f b s0 p0 s p) (he:Eg f b c) (r:OrR f c s p s' p'):Li f b s0 p0 s' p':=by
 obtain⟨L,rfl,h1,h2,h3,h4,h5,h6,h7⟩:=a
 obtain⟨M,rfl,g1,g2,g3,g4,g5,g6,g7⟩:=r
 refine⟨L++(M++[c]),by rw[f0l],Bh.app (Bh.last he g1) h1,f0s.2 ⟨h2,g2,fun u hu v hv e=>?_⟩,fun x hx=>?_,fun x hx=>g4 x (h4 x hx),by omega,by omega,g7.trans h7⟩
 .subst e
  have e1:=(h3 u hu).2
  have e2:=(g3 u hv).1
  rw[e1] at e2
  cases e2
 .rcases f0f.1 hx with hx | hx
  .exact ⟨(h3 x hx).1,g4 x (h3 x hx).2⟩
  .obtain ⟨e1,e2⟩:=g3 x hx
   refine⟨?_,e2⟩
   cases e3:s0[x]? with
   | none =>
    have q1:=(f0e.1 e1).1
    have q2:=List.getElem?_eq_none_iff.1 e3
    omega
   | some t =>
    cases t with
    | false=>rfl
    | true=>rw[h4 x e3] at e1;cases e1
structure OrS (f:Fc) (h0:Hp) (k:Nat) (h:Hp) (s:List Bool) (p:List Nat):Prop where
 ok:Ok h
 k1:1<=k
 nx:k+5<=h.next
 F:h.get k=some (.arr [jag jak f.values,jag jax f.blocks] 29)
 S:h.get (k+1)=some (.arr (s.map (fun b=>SV.bool b)) 4)
 c:h.get (k+2)=some (.arr [.slice (k+1) 0 f.blocks.length f.blocks.length true 1] 106)
 V:h.get (k+4)=some (.arr [.func 54 [(k+2,0),(k,0),(k+4,0),(k+3,0)]] 68)
 P:∃ x b,h.get (k+3)=some (.arr [x] 26)/\OL 3 1 jak h x p b/\(b=0∨k+5<=b)
 low:∀ n,n<k->h.get n=h0.get n
 len:s.length=f.blocks.length
 cnt:p.length+cf s<=f.blocks.length
theorem OrS.up {h0 h:Hp} (a:OrS f h0 k h s p) (g:Gw h h'):OrS f h0 k h' s p:=by
 have hn:=a.nx
 obtain⟨x,b,h1,h2,h3⟩:=a.P
 exact⟨g.ok,a.k1,f0w hn g.nx,(g.g _ (by omega)).trans a.F,(g.g _ (by omega)).trans a.S,(g.g _ (by omega)).trans a.c,(g.g _ (by omega)).trans a.V,⟨x,b,(g.g _ (by omega)).trans h1,h2.keep g.nx (fun _ h=>g.g _ h),h3⟩,fun n hn=>(g.g _ (by omega)).trans (a.low n hn),a.len,a.cnt⟩
section
variable {F:Fns} (S:SF F)
include S
abbrev qmu (k b:Nat):List AV:=[vi b,.s (.ptr (k+2) 0),.s (.ptr k 0),.s (.ptr (k+4) 0),.s (.ptr (k+3) 0)]
theorem qd6 (hn:f.blocks.length<=16) {h0:Hp} {b d:Nat} {s0:List Bool} {p0:List Nat} (hd0:cf s0<=d)
 (ih:∀ {c:Nat} {h:Hp} {s:List Bool} {p:List Nat},OrS f h0 k h s p->s[c]?=some false->cf s<=d->WC F 54 (qmu k c) h (fun _ h'=>∃ s' p',OrS f h0 k h' s' p'/\OrR f c s p s' p'))
 {l:List Ms.Edg} (hl:l.length<=10000) (he:∀ e∈l,e.block<f.blocks.length/\Eg f b e.block) {Q:Ex->St->Prop}
 (hQ:∀ hj x5 x6 x8 s p,OrS f h0 k hj s p->Li f b s0 p0 s p->Q (.exit 0) (.mk [vi b,.s (.ptr (k+2) 0),.s (.ptr k 0),.s (.ptr (k+4) 0),.s (.ptr (k+3) 0),x5,x6,.s (jag jdu l),x8,vi l.length,vi l.length] hj)) :
 ∀ (d' i:Nat) (_:i+d'=l.length) {hi:Hp} {s:List Bool} {p:List Nat} (_:OrS f h0 k hi s p) (_:Li f b s0 p0 s p) {x5 x6 x8:AV},
  W F jo7.loop (.mk [vi b,.s (.ptr (k+2) 0),.s (.ptr k 0),.s (.ptr (k+4) 0),.s (.ptr (k+3) 0),x5,x6,.s (jag jdu l),x8,vi l.length,vi i] hi) Q
 | 0,i,hd,hi,s,p,O,L,x5,x6,x8=>by
  obtain rfl:i=l.length:=by omega
  rw[jae]
  unfold jo7
  have ok:=O.ok
  simp(disch:=first|omega|rfl) only[go_sem,f0q]
  exact hQ hi _ _ _ s p O L
 | d'+1,i,hd,hi,s,p,O,L,x5,x6,x8=>by
  have hlt:(i:Int)<l.length:=by omega
  obtain⟨e,hget⟩:∃ x,l[i]?=some x:=⟨_,f0b (by omega)⟩
  obtain⟨he1,he2⟩:=he e (f0c hget)
  have hix:=jaf (enc:=jdu) (size:=2) hget rfl
  have hs:(i:Int)+1=((i+1:Nat):Int):=by omega
  have ok:=O.ok
  obtain⟨hA,eA,gA,nA,xA⟩:=nwG ok [.int .i64 0,.nilSlice] [si e.block,jag jak e.args] 76
  have okA:=gA.ok
  have OA:=O.up gA
  have c:=OA.c
  have xS:=OA.S
  have V:=OA.V
  obtain⟨t,ht⟩:∃ t,s[e.block]?=some t:=⟨_,f0b (by rw[O.len];exact he1)⟩
  have im:=ixm (bs:=k+1) he1
  have rr:rdB (some (.arr (s.map (fun b=>SV.bool b)) 4)) e.block 1=some [.bool t]:=rd1 (by rw[f07,ht];rfl)
  rw[jae]
  unfold jo7 j20
  cases t with
  | true =>
   simp(disch:=first|omega|rfl) only[go_sem,jac,eq_true hlt,hix,jdu,eA,xA,c,im,xS,rr,hs]
   exact qd6 hn hd0 ih hl he hQ d' (i+1) (by omega) OA L
  | false =>
   simp(disch:=first|omega|rfl) only[go_sem,jac,eq_true hlt,hix,jdu,eA,xA,c,im,xS,rr,V]
   rw[jgx rfl]
   simp(disch:=first|omega|rfl) only[go_sem]
   have lc:cf s<=d:=by obtain⟨_,_,_,_,_,_,_,h6,_⟩:=L;omega
   refine WC.imp (ih (c:=e.block) OA ht lc) ?_
   rintro v hB ⟨s',p',OB,R⟩
   have okB:=OB.ok
   simp(disch:=first|omega|rfl) only[go_sem,jac,hs]
   exact qd6 hn hd0 ih hl he hQ d' (i+1) (by omega) OB (L.step he2 R)
theorem j3g (hf:ShT f) {h0:Hp}:∀ (d:Nat) {b:Nat} {h:Hp} {s:List Bool} {p:List Nat},OrS f h0 k h s p->s[b]?=some false->cf s<=d->WC F 54 (qmu k b) h (fun _ h'=>∃ s' p',OrS f h0 k h' s' p'/\OrR f b s p s' p')
 | 0,b,h,s,p,O,hb,hd=>by
  have:=j3f hb
  omega
 | d+1,b,h,s,p,O,hb,hd=>by
  refine jan (S.X _ (by simp) _ _) ((S.T _).trans qlj) rfl ?_
  unfold j9u
  have n2:=hf.n2
  have hbl:b<f.blocks.length:=by rw[←O.len];exact(f0e.1 hb).1
  obtain⟨B,hB⟩:∃ x,f.blocks[b]?=some x:=⟨_,f0b hbl⟩
  have bB:=hf.bl B (f0c hB)
  have sB:=hf.bs B (f0c hB)
  have ok:=O.ok
  have nx:=O.nx
  have k1:=O.k1
  have c:=O.c
  have xS:=O.S
  have im:=ixm (bs:=k+1) hbl
  have cs:=j3f hb
  have hw:jat b [.bool true] (s.map (fun b=>SV.bool b))=some ((s.set b true).map (fun b=>SV.bool b)):=by
   rw[wr1 (by rw[f05,O.len];exact hbl),List.map_set]
  obtain⟨hA,eA,okA,nA,xA,gA⟩:=pt1 ok (b:=k+1) (by omega) (some (.arr ((s.set b true).map (fun b=>SV.bool b)) 4))
  have cA:=(gA (k+2) (by omega)).trans O.c
  have FA:=(gA k (by omega)).trans O.F
  have VA:=(gA (k+4) (by omega)).trans O.V
  have OA:OrS f h0 k hA (s.set b true) p:=by
   obtain⟨x,b',h1,h2,h3⟩:=O.P
   exact⟨okA,k1,by omega,FA,xA,cA,VA,⟨x,b',(gA _ (by omega)).trans h1,h2.keep (by omega) (fun _ _=>gA _ (by omega)),h3⟩,fun n hn=>(gA _ (by omega)).trans (O.low n hn),by rw[f2m];exact O.len,by have:=O.cnt;omega⟩
  have hix:=jaf (enc:=jax) (size:=3) hB rfl
  have l1:=jad (enc:=jdu) (l:=B.edges)
  simp(disch:=first|omega|rfl) only[go_sem,c,im,xS,hw,eA,FA,hix,jax,l1]
  refine qd6 S n2 (d:=d) (s0:=s.set b true) (p0:=p) (by omega) (fun O hc hd=>j3g hf d O hc hd) (l:=B.edges) (by have:=sB.e;omega) (fun e he=>⟨(bB.e e he).b2,B,hB,e,he,rfl⟩) (fun hj x5 x6 x8 s' p' OJ L=>?_) B.edges.length 0 (by omega) OA Li.self
  obtain⟨x,b',h1,h2,h3⟩:=OJ.P
  have okJ:=OJ.ok
  have nJ:=OJ.nx
  have cJ:=OJ.cnt
  obtain⟨x',hC,eC,okC,nC,gC,olC⟩:=h2.app (enc:=jak) (fun _=>rfl) okJ (cs:=[b]) (by simp) (bytes:=8) (by simp;omega) (by simp;omega)
  simp only[f1n,List.flatMap_nil,f1d,f03,f1j,f0y] at eC
  unfold jak at eC
  obtain⟨hD,eD,okD,nD,xD,gD⟩:=pt1 okC (b:=k+3) (by omega) (some (.arr [x'] 26))
  have g2:∀ n,n<k+5->n≠k+3->hD.get n=hj.get n:=fun n hn h=>(gD n h).trans (gC n (by omega) (by omega))
  have z:=(gC (k+3) (by omega) (by omega)).trans h1
  simp(disch:=first|omega|rfl) only[go_sem,h1,eC,z,eD]
  obtain⟨L,rfl,e1,e2,e3,e4,e5,e6,e7⟩:=L
  have sb:(s.set b true)[b]?=some true:=by rw[f23 (by rw[O.len];exact hbl)]
  have cO:=O.cnt
  refine⟨s',p++L++[b],⟨okD,k1,by omega,(g2 _ (by omega) (by omega)).trans OJ.F,(g2 _ (by omega) (by omega)).trans OJ.S,(g2 _ (by omega) (by omega)).trans OJ.c,(g2 _ (by omega) (by omega)).trans OJ.V,⟨x',_,xD,olC.keep (by omega) (fun _ h=>gD _ (by omega)),.inr (by omega)⟩,fun n hn=>(g2 n (by omega) (by omega)).trans (OJ.low n hn),OJ.len,?_⟩,L,by rw[f0l],e1,f0s.2 ⟨e2,by simp,fun u hu v hv e=>?_⟩,fun x hx=>?_,fun x hx=>e4 x ?_,?_,by omega,by rw[e7,f2m]⟩
  .simp only[f0g,f03,f1j] at e5 ⊢;omega
  .obtain rfl:v=b:=by simpa using hv
   subst e
   have:=(e3 u hu).1
   rw[sb] at this
   cases this
  .rcases f0f.1 hx with hx | hx
   .obtain ⟨q1,q2⟩:=e3 x hx
    refine⟨?_,q2⟩
    by_cases hxb:b=x
    .subst hxb;rw[sb] at q1;cases q1
    .rwa [f1a hxb] at q1
   .obtain rfl:x=b:=by simpa using hx
    exact⟨hb,e4 x sb⟩
  .by_cases hxb:b=x
   .subst hxb;exact sb
   .rwa [f1a hxb]
  .simp only[f0g,f03,f1j] at e5 ⊢;omega
end
abbrev mI (l:List Nat):List SV:=l.map (fun(a:Nat)=>si (a:Int))
theorem jmb:∀ l:List Nat,l.flatMap jak=mI l
 | []=>rfl
 | a::l=>by rw[f1n,jmb l];rfl
theorem ixI {b n v:Nat} {ex:Bool} (h:v<n):jj3 1 (.s (.slice b 0 n n ex 1)) (vi (v:Int))=some (.s (.ptr b v)):=by
 have:=jcc (size:=1) (b:=b) (off:=0) (mc:=n) (sz:=1) (ex:=ex) h
 rw[f2w,f0y] at this
 exact this
theorem qd7 {l:List Nat} {i c ty:Nat} (h:l[i]?=some c):rdB (some (.arr (mI l) ty)) i 1=some [si c]:=rd1 (by rw[f07,h];rfl)
theorem qh9 {l:List Nat} {i c:Nat} (h:i<l.length):jat i [si c] (mI l)=some (mI (l.set i c)):=by
 rw[wr1 (by rw[f05];exact h)]
 exact congrArg some (List.map_set).symm
section
variable {F:Fns} (S:SF F)
include S
theorem qia {b n:Nat} (hb:1<=b) (hn2:n<=10000) {l0:List Nat} (hn:l0.length=n) {h0:Hp} {Q:Ex->St->Prop}
 (hQ:∀ hj x1 x2 x3,Ok hj->hj.next=h0.next->hj.get b=some (.arr (mI l0.reverse) 3)->(∀ n,n≠b->hj.get n=h0.get n)->Q (.exit 0) (.mk [.s (.slice b 0 n n false 1),x1,x2,x3] hj)) :
 ∀ (d i j:Nat) (_:i+j+1=n) (_:j<i+d) {hi:Hp} (_:Ok hi) (_:hi.next=h0.next) (_:∀ n,n≠b->hi.get n=h0.get n) {l:List Nat} (_:l.length=n) (_:hi.get b=some (.arr (mI l) 3))
  (_:∀ t,t<n->l[t]?=if t<i∨j<t then l0[n - 1 - t]? else l0[t]?) {x1:AV},
  W F jpc.loop (.mk [.s (.slice b 0 n n false 1),x1,vi j,vi i] hi) Q
 | d,i,j,hij,hd,hi,ok,nx,gi,l,hl,xb,inv,x1=>by
  by_cases c1:i<j
  .match d,hd with
   | 0,hd=>exact absurd hd (by omega)
   | d+1,hd =>
   obtain⟨a,ha⟩:∃ a,l[i]?=some a:=⟨_,f0b (by omega)⟩
   obtain⟨c,hc⟩:∃ a,l[j]?=some a:=⟨_,f0b (by omega)⟩
   have c1':((i:Int)<(j:Int))=True:=eq_true (by omega)
   have i1:=ixI (b:=b) (n:=n) (ex:=false) (v:=i) (by omega)
   have i2:=ixI (b:=b) (n:=n) (ex:=false) (v:=j) (by omega)
   have r1:=qd7 (ty:=3) ha
   have r2:=qd7 (ty:=3) hc
   have w1:=qh9 (l:=l) (i:=i) (c:=c) (by omega)
   have w2:=qh9 (l:=l.set i c) (i:=j) (c:=a) (by rw[f2m];omega)
   obtain⟨hA,eA,okA,nA,xA,gA⟩:=pt1 ok hb (some (.arr (mI (l.set i c)) 3))
   obtain⟨hB,eB,okB,nB,xB,gB⟩:=pt1 okA hb (some (.arr (mI ((l.set i c).set j a)) 3))
   have s1:(i:Int)+1=((i+1:Nat):Int):=by omega
   have s2:(j:Int) - 1=((j - 1:Nat):Int):=by omega
   rw[jae]
   unfold jpc j26
   simp(disch:=first|omega|rfl) only[go_sem,jac,c1',i1,i2,xb,r1,r2,w1,eA,xA,w2,eB,s1,s2]
   refine qia hb hn2 hn hQ d (i+1) (j - 1) (by omega) (by omega) okB (by omega) (fun m hm=>(gB m hm).trans ((gA m hm).trans (gi m hm))) (by rw[f2m,f2m];exact hl) xB (fun t ht=>?_)
   by_cases e1:t=j
   .subst e1
    rw[f23 (by rw[f2m];omega),if_pos (.inr (by omega)),←ha,inv i (by omega),if_neg (by omega),show n - 1 - t=i by omega]
   .rw [f1a (fun h=>e1 h.symm)]
    by_cases e2:t=i
    .subst e2
     rw[f23 (by omega),if_pos (.inl (by omega)),←hc,inv j (by omega),if_neg (by omega),show n - 1 - t=j by omega]
    .rw [f1a (fun h=>e2 h.symm),inv t ht]
     by_cases e3:t<i∨j<t
     .rw [if_pos e3,if_pos (by omega)]
     .rw [if_neg e3,if_neg (by omega)]
  .have c1':((i:Int)<(j:Int))=False:=eq_false (by omega)
   have e:l=l0.reverse:=by
    refine f2y (fun t=>?_)
    by_cases ht:t<n
    .rw [inv t ht,List.getElem?_reverse (by omega),hn]
     by_cases e3:t<i∨j<t
     .rw [if_pos e3]
     .rw [if_neg e3,show n - 1 - t=t by omega]
    .rw [f0t (by omega),f0t (by rw[List.length_reverse];omega)]
   subst e
   rw[jae]
   unfold jpc
   simp(disch:=first|omega|rfl) only[go_sem,jac,c1']
   exact hQ hi _ _ _ ok nx xb gi
theorem qd8 {h:Hp} (ok:Ok h) {x:SV} {l:List Nat} {b:Nat} (hl:l≠[]) (hl2:l.length<=10000) (ol:OL 3 1 jak h x l b) :
 WC F 55 [.s x] h (fun _ h'=>Ok h'/\h'.next=h.next/\OL 3 1 jak h' x l.reverse b/\(∀ n,n≠b->h'.get n=h.get n)):=by
 refine jan (S.X _ (by simp) _ _) ((S.T _).trans qll) rfl ?_
 unfold j9z
 rcases ol with⟨e,_⟩ | ⟨_,rfl,h1,h2,h3⟩
 .exact absurd e hl
 have hp:=f21.2 hl
 rw[jmb] at h3
 obtain⟨n,hn⟩:∃ n,l.length=n:=⟨_,rfl⟩
 rw[hn] at hp hl2 ⊢
 have s2:(n:Int) - 1=((n - 1:Nat):Int):=by omega
 simp(disch:=first|omega|rfl) only[go_sem,jac,s2]
 refine qia S h1 hl2 hn (h0:=h) (fun hj x1 x2 x3 okj nj xj gj=>?_) n 0 (n - 1) (by omega) (by omega) ok rfl (fun _ _=>rfl) hn h3 (fun t ht=>by rw[if_neg (by omega)])
 simp(disch:=first|omega|rfl) only[go_sem]
 refine⟨okj,nj,.inr ⟨by simpa using hl,by rw[List.length_reverse,hn],h1,by omega,by rw[jmb];exact xj⟩,gj⟩
def Ord (f:Fc) (l:List Nat):Prop:=l.Nodup/\(∀ x∈l,x<f.blocks.length)/\∃ L,l=0::L.reverse/\Bh f 0 L
theorem j3h {h:Hp} (ok:Ok h) (hf:ShT f):WC F 35 [FA f] h (fun v h'=>∃ x l b,v=.s x/\OL 3 1 jak h' x l b/\h.next<=b/\Gw h h'/\Ord f l):=by
 refine jan (S.X _ (by simp) _ _) ((S.T _).trans qh4) rfl ?_
 unfold j2z
 have n1:=hf.n1
 have n2:=hf.n2
 have hp:=ok.pos
 have l2:=jad (enc:=jax) (l:=f.blocks)
 obtain⟨hA,eA,gA,nA,xA⟩:=bxG ok [jag jak f.values,jag jax f.blocks] 29
 obtain⟨hB,eB,gB,nB,xB⟩:=bxG gA.ok (rep [.bool false] f.blocks.length) 4
 have okA:=gA.ok
 have okB:=gB.ok
 have ms:=jhf (e:=4) (size:=1) (bytes:=1) (z:=[.bool false]) (m:=f.blocks.length) okA (by omega) (by omega)
 rw[eB,nA] at ms
 obtain⟨hC,eC,gC,nC,xC⟩:=nwG okB [.nilSlice] [.slice (h.next+1) 0 f.blocks.length f.blocks.length true 1] 106
 have okC:=gC.ok
 obtain⟨hD,eD,gD,nD,xD⟩:=bxG okC [.nilSlice] 26
 have okD:=gD.ok
 obtain⟨hE,eE,gE,nE,xE⟩:=bxG gD.ok [.nilFunc] 68
 have okE:=gE.ok
 have mB:hB.next=h.next+2:=by omega
 have mC:hC.next=h.next+3:=by omega
 have mD:hD.next=h.next+4:=by omega
 have mE:hE.next=h.next+5:=by omega
 rw[nA] at xB
 rw[mB] at eC xC
 rw[mC] at xD
 rw[mD] at xE
 obtain⟨hG,eG,okG,nG,xG,gG⟩:=pt1 okE (b:=h.next+4) (by omega) (some (.arr [.func 54 [(h.next+2,0),(h.next,0),(h.next+4,0),(h.next+3,0)]] 68))
 have er:∀ n,rep [.bool false] n=(List.replicate n false).map (fun b=>SV.bool b):=fun n=>by
  induction n with
  | zero=>rfl
  | succ n ih =>
   have:rep [.bool false] (n+1)=[.bool false]++rep [.bool false] n:=show jeq [SV.bool false] (rep [SV.bool false] n)=_ from jb2 ..
   rw[this,ih];rfl
 have yA:=(gB.g h.next (by omega)).trans xA
 have zA:hG.get h.next=_:=(gG _ (by omega)).trans ((gE.g _ (by omega)).trans ((gD.g _ (by omega)).trans ((gC.g _ (by omega)).trans yA)))
 have zB:hG.get (h.next+1)=_:=(gG _ (by omega)).trans ((gE.g _ (by omega)).trans ((gD.g _ (by omega)).trans ((gC.g _ (by omega)).trans xB)))
 have zC:hG.get (h.next+2)=_:=(gG _ (by omega)).trans ((gE.g _ (by omega)).trans ((gD.g _ (by omega)).trans xC))
 have zD:hG.get (h.next+3)=_:=(gG _ (by omega)).trans ((gE.g _ (by omega)).trans xD)
 have low:∀ n,n<h.next->hG.get n=h.get n:=fun n hn=>(gG _ (by omega)).trans ((gE.g _ (by omega)).trans ((gD.g _ (by omega)).trans ((gC.g _ (by omega)).trans ((gB.g _ (by omega)).trans (gA.g _ hn)))))
 have c0:cf (List.replicate f.blocks.length false)=f.blocks.length:=by simp[cf]
 have O:OrS f h h.next hG (List.replicate f.blocks.length false) []:=⟨okG,hp,by omega,zA,by rw[zB,er],zC,xG,⟨.nilSlice,0,zD,.nil,.inl rfl⟩,low,by simp,by rw[c0];simp⟩
 simp(disch:=first|omega|rfl) only[go_sem,eA,nA,xA,l2,ms,mB,eC,eD,mC,eE,mD,xE,eG,xG]
 rw[jgx rfl]
 simp(disch:=first|omega|rfl) only[go_sem]
 refine WC.imp (j3g S hf f.blocks.length (b:=0) O (by rw[List.getElem?_replicate,if_pos (by omega)]) (by omega)) ?_
 rintro v hH ⟨s,p,OH,L,rfl,e1,e2,e3,e4,e5,e6,e7⟩
 obtain⟨x,b,h1,h2,h3⟩:=OH.P
 have okH:=OH.ok
 have nH:=OH.nx
 have b1:h.next+5<=b:=by
  rcases h2 with⟨e,_,_⟩ | ⟨_,_,h4,_⟩
  .simp at e
  .omega
 have ln:([]++(L++[0])).length<=10000:=by have:=OH.cnt;omega
 simp(disch:=first|omega|rfl) only[go_sem,h1]
 refine WC.imp (qd8 S okH (by simp) ln h2) ?_
 rintro v hI ⟨okI,nI,olI,gI⟩
 have y1:=(gI (h.next+3) (by omega)).trans h1
 simp(disch:=first|omega|rfl) only[go_sem,y1]
 refine⟨x,_,b,rfl,olI,by omega,⟨okI,by omega,fun n hn=>(gI n (by omega)).trans (OH.low n hn)⟩,?_⟩
 rw[f1l]
 refine⟨List.pairwise_reverse.2 (List.Pairwise.imp Ne.symm e2),fun y hy=>?_,L,by simp,e1⟩
 have:=(f0e.1 (e3 y (by rcases List.mem_reverse.1 hy with hy;exact hy)).1).1
 simpa using this
end
section
variable {F:Fns} {st fr:List AV} {h:Hp} {Q:Ex->St->Prop}
theorem jxz {es:List Ent} {dst:Option Nat} {e:TypeId} {size bytes:Nat} {x y:Od} {l:List (IOper×Option (List Nat))} (okh:Ok h) (hs:sel es js []=some []) (hx:ev st fr x=some (.s .nilSlice)) {o' mc' sz':Nat} {ex':Bool} (hy:ev st fr y=some (.s (.slice b' o' 1 mc' ex' sz')))
 {new:List SV} (hr:rdB (h.get b') o' (1*size)=some new) (hb:1*bytes<=1000000000)
 (k:WD F l (.s (.slice h.next 0 1 1 false size)::st) (.mk [(h.next,h.next+1)] none::es) (jbl fr dst (.s (.slice h.next 0 1 1 false size))) (h.push (.arr new e)) Q) :
 WD F ((.mk dst (.a (.app e size bytes x y)) none,some js)::l) st es fr h Q:=by
 cases h with
 | mk n t lo hid =>
 obtain rfl:hid=[]:=okh.hid
 obtain rfl:lo=0:=okh.lo
 rw[jsq (x:=some (DR.mk (.s (.slice n 0 1 1 false size)) ((Hp.mk n t 0 []).push (.arr new e)) (.mk [(n,n+1)] none))) (fun cl=>?_)]
 .exact ⟨_,rfl,k⟩
 .show ob (sel es js []) (fun hid'=>Cls.casesOn (motive:=fun _=>Option DR) (jnx (ob (ev st fr x) (fun v=>jer v none (fun b _ _ _ _ _=>some b))) .app)
   (jfv cl st fr n t 0 n [] hid' (.a (.app e size bytes x y)) (fun n'=>.mk [(n,n')] (some [])))
   (fun x'=>jfv cl st fr n t 0 n [] hid' (.a (.app e size bytes x y)) (fun _=>.mk [] (some [x'])))
   (fun b=>oif (jet es js b) (oif (Nat.ble 0 b) (ob (Hp.get (.mk n t 0 hid') b) (fun _=>jfv cl st fr n t 0 0 [] hid' (.a (.app e size bytes x y)) (fun n'=>.mk [(b,Nat.succ b),(n,n')] none))) none) none)
   (jfv cl st fr n t 0 n [] hid' (.a (.app e size bytes x y)) (fun _=>.mk [] (some [])))
   (jfv cl st fr n t 0 n [] hid' (.a (.app e size bytes x y)) (fun n'=>.mk [(n,n')] none)))=_
  rw[hs,hx]
  show ob (aop cl st fr (.mk n t n []) (.app e size bytes x y)) _=_
  rw[jfh (show AO.calls (.app e size bytes x y)=false from rfl),j03,hx,hy,jl0,jda,show(Hp.mk n t n []).get b'=(Hp.mk n t 0 []).get b' from rfl,hr]
  show ob (jft bytes 1 (nw (.mk n t n []) new e (fun k h=>ok (.s (.slice k 0 1 1 false size)) h))) _=_
  rw[jgw hb (by omega)]
  rfl
theorem j3i {es:List Ent} {dst:Option Nat} {e:TypeId} {size bytes:Nat} {x y:Od} {l:List (IOper×Option (List Nat))} (okh:Ok h) (hs:sel es js []=some []) {b o m mc sz:Nat} {ex:Bool} (hx:ev st fr x=some (.s (.slice b o m mc ex sz))) {Y:AV} (hy:ev st fr y=some Y)
 (hu:jet es js b=true) {u:AB} (hg:h.get b=some u) {v:AV} {h1:Hp} (ha:jjv h e size bytes (.s (.slice b o m mc ex sz)) Y=some (v,h1)) (ok1:Ok h1)
 (k:WD F l (v::st) (.mk [(b,b+1),(h.next,h1.next)] none::es) (jbl fr dst v) h1 Q) :
 WD F ((.mk dst (.a (.app e size bytes x y)) none,some js)::l) st es fr h Q:=by
 cases h with
 | mk n t lo hid =>
 obtain rfl:hid=[]:=okh.hid
 obtain rfl:lo=0:=okh.lo
 rw[jsq (x:=some (DR.mk v h1 (.mk [(b,b+1),(n,h1.next)] none))) (fun cl=>?_)]
 .exact ⟨_,rfl,k⟩
 .show ob (sel es js []) (fun hid'=>Cls.casesOn (motive:=fun _=>Option DR) (jnx (ob (ev st fr x) (fun v=>jer v none (fun b _ _ _ _ _=>some b))) .app)
   (jfv cl st fr n t 0 n [] hid' (.a (.app e size bytes x y)) (fun n'=>.mk [(n,n')] (some [])))
   (fun x'=>jfv cl st fr n t 0 n [] hid' (.a (.app e size bytes x y)) (fun _=>.mk [] (some [x'])))
   (fun b=>oif (jet es js b) (oif (Nat.ble 0 b) (ob (Hp.get (.mk n t 0 hid') b) (fun _=>jfv cl st fr n t 0 0 [] hid' (.a (.app e size bytes x y)) (fun n'=>.mk [(b,Nat.succ b),(n,n')] none))) none) none)
   (jfv cl st fr n t 0 n [] hid' (.a (.app e size bytes x y)) (fun _=>.mk [] (some [])))
   (jfv cl st fr n t 0 n [] hid' (.a (.app e size bytes x y)) (fun n'=>.mk [(n,n')] none)))=_
  rw[hs,hx]
  show oif (jet es js b) (oif (Nat.ble 0 b) (ob (Hp.get (.mk n t 0 []) b) (fun _=>jfv cl st fr n t 0 0 [] [] (.a (.app e size bytes x y)) (fun n'=>.mk [(b,Nat.succ b),(n,n')] none))) none) none=_
  rw[hu,hg,jb5 (f1r b)]
  show ob (aop cl st fr (.mk n t 0 []) (.app e size bytes x y)) _=_
  rw[jfh (show AO.calls (.app e size bytes x y)=false from rfl),j03,hx,hy,jl0,ha]
  obtain⟨n1,t1,l1,d1⟩:=h1
  obtain rfl:d1=[]:=ok1.hid
  obtain rfl:l1=0:=ok1.lo
  rfl
end
structure IntP (f:Fc) (c:Nat) (P:Nat->List Nat):Prop where
 s:∀ j p,p∈P j->p<f.blocks.length/\Eg f p j
 b:∀ j,(P j).length<=c
def qe7 (n k:Nat) (h:Hp) (P:Nat->List Nat):Prop:=∃ (xs:Nat->SV) (bs:Nat->Nat),h.get (k+1)=some (.arr ((List.range n).map xs) 26)/\(∀ j,OL 3 1 jak h (xs j) (P j) (bs j))/\(∀ j,bs j=0∨k+2<=bs j)/\∀ i j,i≠j->bs i=bs j->bs i=0
theorem qe7.up {n:Nat} {h:Hp} {P:Nat->List Nat} (a:qe7 n k h P) (hk:k+1<h.next) (g:Gw h h'):qe7 n k h' P:=by
 obtain⟨xs,bs,h1,h2,h3,h4⟩:=a
 exact⟨xs,bs,(g.g _ hk).trans h1,fun j=>(h2 j).keep g.nx (fun _ h=>g.g _ h),h3,h4⟩
structure IntS (f:Fc) (h0:Hp) (k:Nat) (h:Hp) (P:Nat->List Nat):Prop where
 ok:Ok h
 k1:1<=k
 nx:k+2<=h.next
 F:h.get k=some (.arr [jag jak f.values,jag jax f.blocks] 29)
 O:qe7 f.blocks.length k h P
 low:∀ n,n<k->h.get n=h0.get n
theorem IntS.up {h0 h:Hp} {P:Nat->List Nat} (a:IntS f h0 k h P) (g:Gw h h'):IntS f h0 k h' P :=
 ⟨g.ok,a.k1,f0w a.nx g.nx,(g.g _ (by have:=a.nx;omega)).trans a.F,a.O.up (by have:=a.nx;omega) g,fun n hn=>(g.g _ (by have:=a.nx;omega)).trans (a.low n hn)⟩
def j72 (P:Nat->List Nat) (t b:Nat):Nat->List Nat:=fun j=>if j=t then P t++[b] else P j
theorem jgk {xs:Nat->SV} {n:Nat} {y:SV}:((List.range n).map xs).set t y=(List.range n).map (fun j=>if j=t then y else xs j):=by
 refine f2y (fun i=>?_)
 by_cases hi:i<n
 .by_cases e:t=i
  .subst e
   rw[f23 (by simpa using hi),f07,f18 hi]
   simp
  .rw [f1a e,f07,f07,f18 hi]
   simp only[f1m,Option.some.injEq]
   exact(if_neg (fun h=>e h.symm)).symm
 .rw [f0t (by simpa using hi),f0t (by simpa using hi)]
theorem IntS.add {h0 h h2 h3:Hp} {b:Nat} {P:Nat->List Nat} {xs:Nat->SV} {bs:Nat->Nat} {x':SV} (a:IntS f h0 k h P) (h1:h.get (k+1)=some (.arr ((List.range f.blocks.length).map xs) 26)) (q2:∀ j,OL 3 1 jak h (xs j) (P j) (bs j)) (q3:∀ j,bs j=0∨k+2<=bs j) (q4:∀ i j,i≠j->bs i=bs j->bs i=0)
 (n2:h.next<=h2.next) (g2:∀ n,n<h.next->(n≠bs t∨bs t=0)->h2.get n=h.get n) (o2:OL 3 1 jak h2 x' (P t++[b]) b') (hb':h.next<=b')
 (ok3:Ok h3) (n3:h3.next=h2.next) (x3:h3.get (k+1)=some (.arr ((List.range f.blocks.length).map (fun j=>if j=t then x' else xs j)) 26)) (g3:∀ n,n≠k+1->h3.get n=h2.get n):IntS f h0 k h3 (j72 P t b):=by
 have nx:=a.nx
 have ok:=a.ok
 have lt:∀ j,bs j<h.next:=fun j=>(q2 j).lt ok
 have st:=q3 t
 have keep:∀ n,n<h.next->n≠k+1->(n≠bs t∨bs t=0)->h3.get n=h.get n:=fun n hn hk hb=>(g3 n hk).trans (g2 n hn hb)
 refine⟨ok3,a.k1,by omega,(keep k (by omega) (by omega) (by omega)).trans a.F,⟨_,fun j=>if j=t then b' else bs j,x3,fun j=>?_,fun j=>?_,fun i j hij e=>?_⟩,fun n hn=>(keep n (by omega) (by omega) (by omega)).trans (a.low n hn)⟩
 .show OL _ _ _ _ (if j=t then x' else xs j) (if j=t then P t++[b] else P j) (if j=t then b' else bs j)
  by_cases e:j=t
  .rw [if_pos e,if_pos e,if_pos e]
   exact o2.keep (by omega) (fun _ _=>g3 _ (by omega))
  .rw [if_neg e,if_neg e,if_neg e]
   refine(q2 j).keep (by omega) (fun h1 h2=>keep _ h2 ?_ ?_)
   .have:=q3 j;omega
   .by_cases e2:bs j=bs t
    .have:=q4 j t e e2;omega
    .exact .inl e2
 .show (if j=t then b' else bs j)=0∨k+2<=(if j=t then b' else bs j)
  by_cases e:j=t
  .rw [if_pos e];omega
  .rw [if_neg e];exact q3 j
 .show (if i=t then b' else bs i)=0
  have e':(if i=t then b' else bs i)=(if j=t then b' else bs j):=e
  by_cases e1:i=t
  .rw [if_pos e1,if_neg (fun h=>hij (e1.trans h.symm))] at e'
   have:=lt j
   omega
  .by_cases e2:j=t
   .rw [if_neg e1,if_pos e2] at e'
    have:=lt i
    omega
   .rw [if_neg e1,if_neg e2] at e'
    rw[if_neg e1]
    exact q4 i j hij e'
theorem IntP.add {c b:Nat} {P:Nat->List Nat} (a:IntP f c P) (hb:b<f.blocks.length) (e:Eg f b t):IntP f (c+1) (j72 P t b):=by
 refine⟨fun j p hp=>?_,fun j=>?_⟩
 .unfold j72 at hp
  by_cases e1:j=t
  .rw [if_pos e1] at hp
   rcases f0f.1 hp with hp | hp
   .exact e1▸a.s t p hp
   .obtain rfl:p=b:=by simpa using hp
    exact⟨hb,e1▸e⟩
  .rw [if_neg e1] at hp
   exact a.s j p hp
 .unfold j72
  have h1:=a.b t
  have h2:=a.b j
  by_cases e1:j=t
  .rw [if_pos e1,f0g,f1x];omega
  .rw [if_neg e1];omega
theorem j3j {P:Nat->List Nat} {b j p:Nat} (h:p∈P j):p∈j72 P t b j:=by
 unfold j72
 by_cases e:j=t
 .subst e;rw[if_pos rfl];exact f2g _ h
 .rw [if_neg e];exact h
theorem j3k {P:Nat->List Nat} {b:Nat}:b∈j72 P t b t:=by
 unfold j72;rw[if_pos rfl];simp
theorem jbn {xs:Nat->SV} {n:Nat} (h:t<n):((List.range n).map xs)[t]?=some (xs t):=by
 rw[f07,f18 h];rfl
section
variable {F:Fns} (S:SF F)
include S
theorem j3l (n2:f.blocks.length<=16) {h0:Hp} {b:Nat} (hb:b<f.blocks.length) {l:List Ms.Edg} (hl:l.length<=10000) (he:∀ e∈l,e.block<f.blocks.length/\Eg f b e.block) {x9 x10 x11 x12 x13:AV} {Q:Ex->St->Prop} :
 ∀ (d i:Nat) (_:i+d=l.length) {hi:Hp} {P:Nat->List Nat} {c:Nat} (_:c+d<=10000) (_:IntS f h0 k hi P) (_:IntP f c P) {x3 x6:AV}
  (hQ:∀ hj x3 x6 P',IntS f h0 k hj P'->IntP f (c+d) P'->(∀ j p,p∈P j->p∈P' j)->(∀ e∈l.drop i,b∈P' e.block)->Q (.exit 2) (.mk [x0,x1,vi b,x3,.s (.slice (k+1) 0 f.blocks.length f.blocks.length true 1),.s (jag jdu l),x6,vi l.length,vi l.length,x9,x10,x11,x12,x13,.s (.ptr k 0)] hj)),
  W F jig.loop (.mk [x0,x1,vi b,x3,.s (.slice (k+1) 0 f.blocks.length f.blocks.length true 1),.s (jag jdu l),x6,vi l.length,vi i,x9,x10,x11,x12,x13,.s (.ptr k 0)] hi) Q
 | 0,i,hd,hi,P,c,hc,A,B,x3,x6,hQ=>by
  obtain rfl:i=l.length:=by omega
  rw[jae]
  unfold jig
  have ok:=A.ok
  simp(disch:=first|omega|rfl) only[go_sem,f0q]
  exact hQ hi _ _ P A B (fun _ _ h=>h) (by simp)
 | d+1,i,hd,hi,P,c,hc,A,B,x3,x6,hQ=>by
  have hil:i<l.length:=by omega
  have hlt:(i:Int)<l.length:=by omega
  obtain⟨e,hget⟩:∃ x,l[i]?=some x:=⟨_,f0b (by omega)⟩
  obtain⟨t1,t2⟩:=he e (f0c hget)
  have hix:=jaf (enc:=jdu) (size:=2) hget rfl
  have hs:(i:Int)+1=((i+1:Nat):Int):=by omega
  have ed:l.drop i=e::l.drop (i+1):=by
   rw[f0p hil,(f0e.1 hget).2]
  have ok:=A.ok
  have nx:=A.nx
  obtain⟨hA,eA,gA,nA,xA⟩:=nwG ok [.int .i64 0,.nilSlice] [si e.block,jag jak e.args] 76
  have okA:=gA.ok
  have AA:=A.up gA
  obtain⟨xs,bs,p1,p2,q3,q4⟩:=A.O
  have q1:=(gA.g (k+1) (by omega)).trans p1
  have q2:∀ j,OL 3 1 jak hA (xs j) (P j) (bs j):=fun j=>(p2 j).keep gA.nx (fun _ h=>gA.g _ h)
  have lt:=(p2 e.block).lt ok
  have im:=ixI (b:=k+1) (n:=f.blocks.length) (ex:=true) t1
  have rr:rdB (some (.arr ((List.range f.blocks.length).map xs) 26)) e.block 1=some [xs e.block]:=rd1 (jbn t1)
  have rC:(hA.push (.arr [si b] 3)).get (hi.next+1)=some (.arr [si b] 3):=by rw[jaq okA,if_pos nA.symm]
  have okC:Ok (hA.push (.arr [si b] 3)):=jb4 okA
  have nC:(hA.push (.arr [si b] 3)).next=hi.next+2:=by rw[Hp.next_push,nA]
  have bl:=B.b e.block
  obtain⟨x',h2,e2,ok2,m2,g2,o2⟩:=(q2 e.block).app (enc:=jak) (fun _=>rfl) okA (cs:=[b]) (by simp) (bytes:=8) (by simp;omega) (by simp;omega)
  simp only[f1n,List.flatMap_nil,f1d,f03,f1j,f0y] at e2
  unfold jak at e2
  have y2:h2.get (k+1)=_:=(g2 (k+1) (by omega) (by have:=q3 e.block;omega)).trans q1
  have hw:jat e.block [x'] ((List.range f.blocks.length).map xs)=some ((List.range f.blocks.length).map (fun j=>if j=e.block then x' else xs j)):=by
   rw[wr1 (by simpa using t1),jgk]
  obtain⟨h3,e3,ok3,n3,x3',g3⟩:=pt1 ok2 (b:=k+1) (by omega) (some (.arr ((List.range f.blocks.length).map (fun j=>if j=e.block then x' else xs j)) 26))
  have A3:IntS f h0 k h3 (j72 P e.block b):=AA.add q1 q2 q3 q4 (by omega) g2 o2 (by omega) ok3 n3 x3' g3
  have B3:=B.add hb t2
  have fin:W F jig.loop (.mk [x0,x1,vi b,.s (.ptr hi.next 0),.s (.slice (k+1) 0 f.blocks.length f.blocks.length true 1),.s (jag jdu l),vb true,vi l.length,vi ((i+1:Nat):Int),x9,x10,x11,x12,x13,.s (.ptr k 0)] h3) Q:=by
   refine j3l n2 hb hl he d (i+1) (by omega) (by omega) A3 B3 (fun hj x3 x6 P' u1 u2 u3 u4=>hQ hj x3 x6 P' u1 (by rw[show c+(d+1)=c+1+d by omega];exact u2) (fun j p hp=>u3 j p (j3j hp)) (fun y hy=>?_))
   rw[ed] at hy
   rcases f0h.1 hy with rfl | hy
   .exact u3 _ _ j3k
   .exact u4 y hy
  rw[jae]
  unfold jig jvl
  simp(disch:=first|omega|rfl) only[go_sem,jac,eq_true hlt,hix,jdu,eA,xA,nA,im,q1,rr]
  rcases q2 e.block with⟨z1,z2,z3⟩ | ⟨z1,z2,z3,z4,z5⟩
  .rw [z2,nA] at e2
   have e2':jjv (hA.push (.arr [si b] 3)) 3 1 8 (.s .nilSlice) (.s (.slice (hi.next+1) 0 1 1 true 1))=some (.s (.slice (hA.push (.arr [si b] 3)).next 0 1 1 false 1),(hA.push (.arr [si b] 3)).push (.arr [si b] 3)):=by
    rw[jda,rC]
    show jft 8 1 (nw _ [si b] 3 _)=_
    rw[jgw (by decide) (by decide),jmr okC]
    rfl
   have e4:=e2'.symm.trans e2
   simp only[Option.some.injEq,Prod.mk.injEq,AV.s.injEq] at e4
   obtain⟨ex,eh⟩:=e4
   rw[z2]
   refine jxz okC rfl rfl rfl (by rw[rC];rfl) (by decide) ?_
   rw[eh,ex]
   simp(disch:=first|omega|rfl) only[go_sem,jac,im,y2,hw,e3,hs]
   exact fin
  .rw [z2,nA] at e2
   rw[z2]
   have nu:Nat.beq hi.next (bs e.block)=false:=by
    cases hq:Nat.beq hi.next (bs e.block) with
    | false=>rfl
    | true=>have:=f0k hq;omega
   refine j3i okC rfl rfl rfl (by show oif (oif (Nat.beq hi.next (bs e.block)) false true) true false=true;rw[nu];rfl) (by rw[jaq okA,if_neg (by omega)];exact z5) e2 ok2 ?_
   simp(disch:=first|omega|rfl) only[go_sem,jac,im,y2,hw,e3,hs]
   exact fin
omit S in
theorem IntP.le {c c':Nat} {P:Nat->List Nat} (a:IntP f c P) (h:c<=c'):IntP f c' P:=⟨a.s,fun j=>f0w (a.b j) h⟩
theorem j3m (hf:ShT f) {h0:Hp} {Q:Ex->St->Prop} :
 ∀ (d i:Nat) (_:i+d=f.blocks.length) {hi:Hp} {P:Nat->List Nat} {c:Nat} (_:c+3*d<=10000) (_:IntS f h0 k hi P) (_:IntP f c P) {x2 x3 x5 x6 x7 x8 x9 x11:AV}
  (hQ:∀ hj x2 x3 x5 x6 x7 x8 x9 x11 P',IntS f h0 k hj P'->IntP f 10000 P'->(∀ j p,p∈P j->p∈P' j)->(∀ p B,i<=p->f.blocks[p]?=some B->∀ e∈B.edges,p∈P' e.block)->Q (.exit 0) (.mk [x0,x1,x2,x3,.s (.slice (k+1) 0 f.blocks.length f.blocks.length true 1),x5,x6,x7,x8,x9,.s (jag jax f.blocks),x11,vi f.blocks.length,vi f.blocks.length,.s (.ptr k 0)] hj)),
  W F jkg.loop (.mk [x0,x1,x2,x3,.s (.slice (k+1) 0 f.blocks.length f.blocks.length true 1),x5,x6,x7,x8,x9,.s (jag jax f.blocks),x11,vi f.blocks.length,vi i,.s (.ptr k 0)] hi) Q
 | 0,i,hd,hi,P,c,hc,A,B,x2,x3,x5,x6,x7,x8,x9,x11,hQ=>by
  obtain rfl:i=f.blocks.length:=by omega
  rw[jae]
  unfold jkg
  have ok:=A.ok
  simp(disch:=first|omega|rfl) only[go_sem,f0q]
  refine hQ hi _ _ _ _ _ _ _ _ P A (B.le (by omega)) (fun _ _ h=>h) (fun p B hp hB=>?_)
  have:=(f0e.1 hB).1
  omega
 | d+1,i,hd,hi,P,c,hc,A,B,x2,x3,x5,x6,x7,x8,x9,x11,hQ=>by
  have hil:i<f.blocks.length:=by omega
  have hlt:(i:Int)<f.blocks.length:=by omega
  obtain⟨b,hget⟩:∃ x,f.blocks[i]?=some x:=⟨_,f0b (by omega)⟩
  have hm:=f0c hget
  have n2:=hf.n2
  have bB:=hf.bl b hm
  have sB:=hf.bs b hm
  have hix:=jaf (enc:=jax) (size:=3) hget rfl
  have hs:(i:Int)+1=((i+1:Nat):Int):=by omega
  have ok:=A.ok
  obtain⟨hA,eA,gA,nA,xA⟩:=nwG ok [.nilSlice,.nilSlice,.nilSlice] (jax b) 54
  have okA:=gA.ok
  have l3:=jad (enc:=jdu) (l:=b.edges)
  have se:=sB.e
  have AA:=A.up gA
  unfold jax at xA eA
  rw[jae]
  unfold jkg jvm
  simp(disch:=first|omega|rfl) only[go_sem,jac,eq_true hlt,hix,jax,eA,xA,l3]
  refine j3l S hf.n2 hil (l:=b.edges) (by omega) (fun e he=>⟨(bB.e e he).b2,b,hget,e,he,rfl⟩) b.edges.length 0 (by omega) (c:=c) (by omega) AA B (fun hj x3 x6 P' u1 u2 u3 u4=>?_)
  have okj:=u1.ok
  simp(disch:=first|omega|rfl) only[go_sem,jac,hs]
  refine j3m hf d (i+1) (by omega) (c:=c+b.edges.length) (by omega) u1 u2 (fun hk x2 x3 x5 x6 x7 x8 x9 x11 P2 v1 v2 v3 v4=>hQ hk x2 x3 x5 x6 x7 x8 x9 x11 P2 v1 v2 (fun j p hp=>v3 j p (u3 j p hp)) (fun p B2 hp hB=>?_))
  by_cases e:p=i
  .subst e
   rw[hget] at hB
   cases hB
   intro e he
   exact v3 _ _ (u4 e (by simpa using he))
  .exact v4 p B2 (by omega) hB
structure IntT (f:Fc) (P:Nat->List Nat):Prop where
 s:∀ j p,p∈P j->p<f.blocks.length/\Eg f p j
 t:∀ j p,Eg f p j->p∈P j
 b:∀ j,(P j).length<=10000
theorem jvr {h:Hp} (ok:Ok h) (hf:ShT f):WC F 36 [FA f] h (fun v h'=>∃ P,v=.s (.slice (h.next+1) 0 f.blocks.length f.blocks.length true 1)/\qe7 f.blocks.length h.next h' P/\h.next+2<=h'.next/\Gw h h'/\IntT f P):=by
 refine jan (S.X _ (by simp) _ _) ((S.T _).trans qh5) rfl ?_
 unfold j21
 have n1:=hf.n1
 have n2:=hf.n2
 have hp:=ok.pos
 have l2:=jad (enc:=jax) (l:=f.blocks)
 obtain⟨hA,eA,gA,nA,xA⟩:=bxG ok [jag jak f.values,jag jax f.blocks] 29
 obtain⟨hB,eB,gB,nB,xB⟩:=bxG gA.ok (rep [.nilSlice] f.blocks.length) 26
 have okA:=gA.ok
 have okB:=gB.ok
 have ms:=jhf (e:=26) (size:=1) (bytes:=24) (z:=[.nilSlice]) (m:=f.blocks.length) okA (by omega) (by omega)
 rw[eB,nA] at ms
 rw[nA] at xB
 have yA:=(gB.g h.next (by omega)).trans xA
 have er:∀ n,rep [.nilSlice] n=(List.range n).map (fun _=>SV.nilSlice):=fun n=>by
  have e1:∀ n,rep [.nilSlice] n=List.replicate n SV.nilSlice:=fun n=>by
   induction n with
   | zero=>rfl
   | succ n ih =>
    have:rep [.nilSlice] (n+1)=[.nilSlice]++rep [.nilSlice] n:=show jeq [SV.nilSlice] (rep [SV.nilSlice] n)=_ from jb2 ..
    rw[this,ih];rfl
  rw[e1]
  refine f2y (fun i=>?_)
  rw[List.getElem?_replicate,f07]
  by_cases hi:i<n
  .rw [if_pos hi,f18 hi];rfl
  .rw [if_neg hi,f0t (by simpa using hi)];rfl
 have A:IntS f h h.next hB (fun _=>[]):=⟨okB,hp,by omega,yA,⟨fun _=>.nilSlice,fun _=>0,by rw[xB,er],fun _=>.nil,fun _=>.inl rfl,fun _ _ _ _=>rfl⟩,fun n hn=>(gB.g n (by omega)).trans (gA.g n hn)⟩
 simp(disch:=first|omega|rfl) only[go_sem,eA,nA,xA,l2,ms,yA]
 refine j3m S hf f.blocks.length 0 (by omega) (c:=0) (by omega) A ⟨fun j p hp=>(f2d hp).elim,fun _=>f0d 0⟩ (fun hj x2 x3 x5 x6 x7 x8 x9 x11 P u1 u2 u3 u4=>?_)
 have okj:=u1.ok
 simp(disch:=first|omega|rfl) only[go_sem]
 refine⟨P,u1.O,u1.nx,⟨okj,by have:=u1.nx;omega,u1.low⟩,⟨u2.s,fun j p ⟨B,hB,e,he,hj⟩=>?_,u2.b⟩⟩
 exact hj▸u4 p B (f1r _) hB e he
end
end Go.Proofs.Ytkplfnkgodnmaaa.Ev
