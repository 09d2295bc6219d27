/- slices.IndexFunc over a function's own list of moves, whatever the predicate. -/
import Derived.Test.YtmcfkgjjnhlkiaaYc
namespace Go.Proofs.Ytmcfkgjjnhlkiaa.Ev
noncomputable section
open Go Go.RowKit Go.Proofs.Ytmcfkgjjnhlkiaa.Ms
attribute [local go_sem] Int.reduceToNat reduceCtorEq Nat.reduceAdd Nat.reduceMul Nat.reduceEqDiff Int.reduceEq Int.reduceLT Int.reduceLE Int.reduceNeg Int.reduceAdd Int.reduceSub Int.reduceMul Int.reduceNe
attribute [local go_sem ↓] reduceIte
set_option linter.all false
set_option maxRecDepth 100000
set_option maxHeartbeats 4000000
variable {va:Bool} {g:FuncId} {z cs tl cs':List SV} {i k p v mc sz off size:Nat} {m:Nat×Nat} {cl ov:SV}
theorem rdE {α:Type} {enc:α->List SV} (hs:∀ a,(enc a).length=sz) {l:List α} {c:α} (h:l[i]?=some c) {ty:Nat}:rdB (some (.arr (l.flatMap enc++tl) ty)) (i*sz) sz=some (enc c):=by
 rw[jfx,jcj]
 have main:∀ (l:List α) (i:Nat),l[i]?=some c->∃ r,(l.flatMap enc).drop (i*sz)=enc c++r:=by
  intro l
  induction l with
  | nil=>intro i h;simp at h
  | cons a l ih =>
   intro i h
   cases i with
   | zero =>
    simp only[f0y,Option.some.injEq] at h
    subst h
    exact⟨l.flatMap enc,by rw[f01,f06];rfl⟩
   | succ i =>
    obtain⟨r,e⟩:=ih i (by simpa using h)
    refine⟨r,?_⟩
    have h3:(i+1)*sz=sz+i*sz:=by rw[f1l,f2k,f2q]
    rw[f01,List.drop_append,f1k (by rw[hs,h3];omega),hs,h3,f19,e]
    rfl
 obtain⟨r0,e0⟩:=main l i h
 have hil:=(f0e.1 h).1
 obtain⟨r,e⟩:∃ r,(l.flatMap enc++tl).drop (i*sz)=enc c++r:=by
  refine⟨r0++tl,?_⟩
  rw[f1q (by rw[jbk hs];exact f15 _ (Nat.le_of_lt hil)),e0,f1b]
 rw[e]
 refine(jap _).2 ⟨by rw[f0j,hs];omega,?_⟩
 rw[f04 (by rw[hs];omega),f0s (by rw[hs];omega)]
def OX (h:Hp) (X:SV) (l:List Mo) (b:Nat):Prop :=
 (l=[]/\X=.nilSlice/\b=0)∨∃ mc tl,X=.slice b 0 l.length mc false 6/\l.length<=mc/\1<=b/\b<h.next/\h.get b=some (.arr (l.flatMap jad++tl) 39)/\tl.length=(mc - l.length)*6
section
variable {h h1:Hp} {X:SV} {l:List Mo} {b:Nat}
theorem OL.toX (k:OL 39 6 jad h X l b):OX h X l b:=by
 rcases k with k | ⟨_,rfl,h1,h2,h3⟩
 .exact .inl k
 .exact .inr ⟨l.length,[],rfl,f0b _,h1,h2,by rw[f1n];exact h3,by simp⟩
theorem OX.keep (k:OX h X l b) (hn:h.next<=h1.next) (g:1<=b->b<h.next->h1.get b=h.get b):OX h1 X l b:=by
 rcases k with k | ⟨mc,tl,rfl,h2,h3,h4,h5,h6⟩
 .exact .inl k
 .exact .inr ⟨mc,tl,rfl,h2,h3,by omega,by rw[g h3 h4];exact h5,h6⟩
theorem OX.len (k:OX h X l b):jza (.s X)=some (vi l.length):=by
 rcases k with⟨rfl,rfl,_⟩ | ⟨_,_,rfl,_⟩<;>rfl
theorem OX.lt (k:OX h X l b) (ok:Ok h):b<h.next:=by
 have:=ok.pos
 rcases k with⟨_,_,rfl⟩ | ⟨_,_,_,_,_,h4,_⟩<;>omega
theorem OX.ix (k:OX h X l b) {c:Mo} (hc:l[i]?=some c):ju2 6 (.s X) (vi (i:Int))=some (.s (.ptr b (i*6))):=by
 rcases k with⟨rfl,_,_⟩ | ⟨_,_,rfl,_⟩
 .simp at hc
 .exact (jct (f0e.1 hc).1).trans (by rw[f0l])
theorem OX.at (k:OX h X l b) {c:Mo} (hc:l[i]?=some c):rdB (h.get b) (i*6) 6=some (jad c):=by
 rcases k with⟨rfl,_,_⟩ | ⟨_,_,_,_,_,_,h5,_⟩
 .simp at hc
 .rw [h5];exact rdE jaj hc
theorem OX.xb (k:OX h X l b):∃ tl,l≠[]->h.get b=some (.arr (l.flatMap jad++tl) 39):=by
 rcases k with⟨rfl,_,_⟩ | ⟨_,tl,_,_,_,_,h5,_⟩
 .exact ⟨[],fun h=>absurd rfl h⟩
 .exact ⟨tl,fun _=>h5⟩
end
structure Grw (h h':Hp):Prop where
 ok:Ok h'
 nx:h.next<=h'.next
 g:∀ n,n<h.next->h'.get n=h.get n
theorem Grw.trans {a b c:Hp} (x:Grw a b) (y:Grw b c):Grw a c:=⟨y.ok,f07 x.nx y.nx,fun n hn=>(y.g n (f0k hn x.nx)).trans (x.g n hn)⟩
theorem j5x {F:Fns} {h0':Hp} {l:List Mo} {b:Nat} {caps:List (Nat×Nat)} {P:Mo->Bool} (hl:l.length<=1000) (lb:b<h0'.next) (xb:l≠[]->h0'.get b=some (.arr (l.flatMap jad++tl) 39))
 (hP:∀ (h:Hp) (x:Mo),Grw h0' h->x∈l->WC F g ([.agg (jad x)]++jbp caps) h (fun v h'=>v=vb (P x)/\Grw h h')) {x2:AV} {Q:Ex->St->Prop} {X:SV} (hX:∀ (i:Nat) (c:Mo),l[i]?=some c->ju2 6 (.s X) (vi (i:Int))=some (.s (.ptr b (i*6)))) :
 ∀ (d i:Nat) (_:i+d=l.length) {hi:Hp} (_:Grw h0' hi) (_:∀ (j:Nat) (y:Mo),j<i->l[j]?=some y->P y=false) {x3 x4 x5:AV}
  (h1:∀ (hj:Hp) (j:Nat) (y:Mo) x3 x4 x5 x7,Grw h0' hj->l[j]?=some y->P y=true->(∀ (k:Nat) (z:Mo),k<j->l[k]?=some z->P z=false)->Q .ret (.mk [.s X,.s (.func g caps),vi j,x3,x4,x5,vi l.length,x7] hj))
  (h2:∀ (hj:Hp) x3 x4 x5,Grw h0' hj->(∀ (k:Nat) (z:Mo),l[k]?=some z->P z=false)->Q (.exit 0) (.mk [.s X,.s (.func g caps),x2,x3,x4,x5,vi l.length,vi l.length] hj)),
  W F jnb.loop (.mk [.s X,.s (.func g caps),x2,x3,x4,x5,vi l.length,vi i] hi) Q
 | 0,i,hd,hi,gr,hno,x3,x4,x5,h1,h2=>by
  obtain rfl:i=l.length:=by omega
  rw[jbg]
  unfold jnb
  simp(disch:=first|omega|rfl) only[go_sem,f1r]
  exact h2 hi _ _ _ gr (fun k z hk=>hno k z (f0e.1 hk).1 hk)
 | d+1,i,hd,hi,gr,hno,x3,x4,x5,h1,h2=>by
  have hil:i<l.length:=by omega
  have hlt:(i:Int)<(l.length:Int):=by omega
  have hs:(i:Int)+1=((i+1:Nat):Int):=by omega
  obtain⟨y,hu⟩:∃ u,l[i]?=some u:=⟨_,f0g hil⟩
  have hym:=f0t hu
  have hix:=hX i y hu
  have xi:=(gr.g _ lb).trans (xb (List.ne_nil_of_mem hym))
  have rr:rdB (some (.arr (l.flatMap jad++tl) 39)) (i*6) 6=some [si y.fr.k,si y.fr.c,si y.fr.n,si y.to.k,si y.to.c,si y.to.n]:=rdE jaj hu
  have hc:=hP hi y gr hym
  have ok:=gr.ok
  rw[jbg]
  unfold jnb jwz
  unfold jad at hc
  simp(disch:=first|omega|rfl) only[go_sem,jak,eq_true hlt,hix,xi,rr]
  rw[jgm rfl]
  simp(disch:=first|omega|rfl) only[go_sem]
  refine WC.imp hc ?_
  rintro _ hB ⟨rfl,gB⟩
  have okB:=gB.ok
  cases hp:P y with
  | true =>
   simp(disch:=first|omega|rfl) only[go_sem]
   exact h1 hB i y _ _ _ _ (gr.trans gB) hu hp hno
  | false =>
   simp(disch:=first|omega|rfl) only[go_sem,jak,hs]
   refine j5x hl lb xb hP hX d (i+1) (by omega) (gr.trans gB) (fun j z hj hz=>?_) h1 h2
   by_cases e:j=i
   .subst e;rw[hu] at hz;cases hz;exact hp
   .exact hno j z (by omega) hz
def j5y (neg agg:Bool) (sig:List Bool) (x y:Option AV):Option AV:=ob x (fun a=>ob y (fun b=>jmk agg a (fun xs=>jmk agg b (fun ys=>ob (jah sig xs ys) (fun e=>some (AV.s (SV.bool (oif neg (jdv e) e))))))))
theorem jgo {st fr:List AV} {neg agg:Bool} {sig:List Bool} {x y:Od}:pop st fr (.eqv neg agg sig x y)=j5y neg agg sig (ev st fr x) (ev st fr y):=rfl
structure JoF (F:Fns):Prop where
 X:∀ f∈[18,20,15,19,21,16,22,13,7,17],∀ vs h,jig F f vs h=none
 T:∀ f,jzv F f=Ev.T f
def IxR (P:Mo->Bool) (l:List Mo) (v:AV):Prop:=(∃ (j:Nat) (y:Mo),l[j]?=some y/\P y=true/\(∀ (k:Nat) (z:Mo),k<j->l[k]?=some z->P z=false)/\v=vi j)∨((∀ z∈l,P z=false)/\v=vi (-1))
section
variable {F:Fns} (J:JoF F)
include J
theorem jyu {h:Hp} (ok:Ok h) {l:List Mo} {X:SV} {b:Nat} {caps:List (Nat×Nat)} {P:Mo->Bool} (hl:l.length<=1000) (ol:OX h X l b)
 (hP:∀ (h':Hp) (x:Mo),Grw h h'->x∈l->WC F g ([.agg (jad x)]++jbp caps) h' (fun v h''=>v=vb (P x)/\Grw h' h'')) :
 WC F 18 [.s X,.s (.func g caps)] h (fun v h'=>Grw h h'/\IxR P l v):=by
 refine jbz (J.X _ (by simp) _ _) ((J.T _).trans j7o) rfl ?_
 unfold j1f
 have ll:=ol.len
 obtain⟨tl,xb⟩:=ol.xb
 simp(disch:=first|omega|rfl) only[go_sem,ll]
 refine j5x (h0':=h) (P:=P) hl (ol.lt ok) xb hP (fun i c hc=>ol.ix hc) l.length 0 (by omega) ⟨ok,f0b _,fun _ _=>rfl⟩ (fun j y hj=>absurd hj (Nat.not_lt_zero _)) (fun hj j y x3 x4 x5 x7 gr hy hp hno=>?_) (fun hj x3 x4 x5 gr hno=>?_)
 .simp (disch:=first|omega|rfl) only[go_sem]
  exact⟨gr,.inl ⟨j,y,hy,hp,hno,rfl⟩⟩
 .simp (disch:=first|omega|rfl) only[go_sem]
  refine⟨gr,.inr ⟨fun z hz=>?_,rfl⟩⟩
  obtain⟨i,hi⟩:=List.getElem?_of_mem hz
  exact hno i z hi
theorem j3p {h:Hp} (ok:Ok h) {l:List Mo} {X:SV} {b:Nat} {caps:List (Nat×Nat)} {P:Mo->Bool} (hl:l.length<=1000) (ol:OX h X l b)
 (hP:∀ (h':Hp) (x:Mo),Grw h h'->x∈l->WC F g ([.agg (jad x)]++jbp caps) h' (fun v h''=>v=vb (P x)/\Grw h' h'')) :
 WC F 20 [.s X,.s (.func g caps)] h (fun v h'=>Grw h h'/\v=vb (l.any P)):=by
 refine jbz (J.X _ (by simp) _ _) ((J.T _).trans j7n) rfl ?_
 unfold j1e
 simp(disch:=first|omega|rfl) only[go_sem]
 refine WC.imp (jyu J ok hl ol hP) ?_
 rintro v hB ⟨gB,⟨j,y,hy,hp,_,rfl⟩ | ⟨hno,rfl⟩⟩
 .have c1:((0:Int)<=(j:Int))=True:=eq_true (by omega)
  have e:l.any P=true:=List.any_eq_true.2 ⟨y,f0t hy,hp⟩
  simp(disch:=first|omega|rfl) only[go_sem,c1]
  exact⟨gB,by rw[e]⟩
 .have c1:((0:Int)<=-1)=False:=eq_false (by omega)
  have e:l.any P=false:=List.any_eq_false.2 (fun z hz=>by rw[hno z hz];simp)
  simp(disch:=first|omega|rfl) only[go_sem,c1]
  exact⟨gB,by rw[e]⟩
omit J in
theorem Pl.eq_iff {a b:Pl}:(a=b)↔(a.k=b.k/\a.c=b.c/\a.n=b.n):=by cases a;cases b;simp
omit J in
theorem j0h {a b c a' b' c':Nat}:j5y false true [false,false,false] (some (.agg [si a,si b,si c])) (some (.agg [si a',si b',si c']))=some (vb (decide (a=a'/\b=b'/\c=c'))):=by
 show some (AV.s (SV.bool (oif (ieq (a:Int) (a':Int)) (oif (ieq (b:Int) (b':Int)) (oif (ieq (c:Int) (c':Int)) true false) false) false)))=_
 rw[jbj,jbj,jbj]
 have e1:((a:Int)=(a':Int))↔a=a':=by omega
 have e2:((b:Int)=(b':Int))↔b=b':=by omega
 have e3:((c:Int)=(c':Int))↔c=c':=by omega
 by_cases h1:a=a'<;>by_cases h2:b=b'<;>by_cases h3:c=c'<;>simp[e1,e2,e3,h1,h2,h3,jag]
theorem j3q {h:Hp} (ok:Ok h) {x y:Mo} {bx:Nat} (lx:bx<h.next) (xx:h.get bx=some (.arr (jad x) 39)):WC F 21 [.agg (jad y),.s (.ptr bx 0)] h (fun v h'=>v=vb (decide (y.fr=x.to))/\Grw h h'):=by
 refine jbz (J.X _ (by simp) _ _) ((J.T _).trans j7m) rfl ?_
 unfold j1d
 unfold jad at xx ⊢
 obtain⟨hA,eA,okA,nA,xA,gA⟩:=jqp ok [si y.fr.k,si y.fr.c,si y.fr.n,si y.to.k,si y.to.c,si y.to.n] 39
 have yx:=(gA _ lx).trans xx
 simp(disch:=first|omega|rfl) only[go_sem,eA,xA,yx,jgo,j0h]
 refine⟨?_,okA,by omega,gA⟩
 exact congrArg (fun b=>AV.s (SV.bool b)) (decide_eq_decide.2 Pl.eq_iff.symm)
theorem j3r {h:Hp} (ok:Ok h) {x:Mo} {l:List Mo} {X:SV} {fr b bj:Nat} (hl:l.length<=1000) (ol:OX h X l b) (lp:p<h.next) (xp:h.get p=some (.arr (JC m X cl fr ov) 51)) (lj:bj<h.next) (xj:h.get bj=some (.arr [.ptr p 0] 48)) :
 WC F 19 [.agg (jad x),.s (.ptr bj 0)] h (fun v h'=>v=vb (je4 l x)/\Grw h h'):=by
 refine jbz (J.X _ (by simp) _ _) ((J.T _).trans j7l) rfl ?_
 unfold j1c
 unfold JC at xp
 obtain⟨hA,eA,okA,nA,xA,gA⟩:=jqp ok (jad x) 39
 have yp:=(gA _ lp).trans xp
 have yj:=(gA _ lj).trans xj
 have olA:=ol.keep (h1:=hA) (by omega) (fun _ h2=>gA _ h2)
 have eA':=eA
 unfold jad at eA' ⊢
 simp(disch:=first|omega|rfl) only[go_sem,eA',yp,yj]
 refine WC.imp (j3p J okA (P:=fun y=>decide (y.fr=x.to)) hl olA (fun h' y gr hy=>?_)) ?_
 .exact j3q J gr.ok (by have:=gr.nx;omega) ((gr.g _ (by omega)).trans xA)
 .rintro _ hB ⟨gB,rfl⟩
  simp(disch:=first|omega|rfl) only[go_sem]
  exact⟨rfl,(⟨okA,by omega,gA⟩:Grw h hA).trans gB⟩
theorem j3s {h:Hp} (ok:Ok h) {l:List Mo} {X:SV} {fr b:Nat} (hl:l.length<=1000) (ol:OX h X l b) (lp:p<h.next) (xp:h.get p=some (.arr (JC m X cl fr ov) 51)) :
 WC F 15 [.s (.ptr p 0)] h (fun v h'=>Grw h h'/\IxR (je4 l) l v):=by
 refine jbz (J.X _ (by simp) _ _) ((J.T _).trans j7k) rfl ?_
 unfold j1b
 have xp0:=xp
 unfold JC at xp0
 obtain⟨hA,eA,okA,nA,xA,gA⟩:=jqp ok [.ptr p 0] 48
 have yp:=(gA _ lp).trans xp0
 have olA:=ol.keep (h1:=hA) (by omega) (fun _ h2=>gA _ h2)
 simp(disch:=first|omega|rfl) only[go_sem,eA,yp,xA]
 refine WC.imp (jyu J okA (P:=je4 l) hl olA (fun h' x gr hx=>?_)) ?_
 .exact j3r J gr.ok hl (olA.keep gr.nx (fun _ h2=>gr.g _ h2)) (by have:=gr.nx;omega) ((gr.g _ (by omega)).trans ((gA _ lp).trans xp)) (by have:=gr.nx;omega) ((gr.g _ (by omega)).trans xA)
 .rintro v hB ⟨gB,hv⟩
  obtain⟨n,rfl⟩:∃ n:Int,v=vi n:=by rcases hv with⟨j,_,_,_,_,rfl⟩ | ⟨_,rfl⟩<;>exact⟨_,rfl⟩
  simp(disch:=first|omega|rfl) only[go_sem]
  exact⟨(⟨okA,by omega,gA⟩:Grw h hA).trans gB,hv⟩
end
def bdV (y:Option AV):Option Nat:=ob y (fun x=>jlg x (fun _ n=>Int.casesOn (motive:=fun _=>Option Nat) n (fun m=>some m) (fun _=>none)))
theorem j5z:bdV (some (vi (k:Int)))=some k:=rfl
section
variable {st fr:List AV} {h:Hp}
theorem jtx:jdw st fr none=some:=rfl
theorem jty {o:Od}:jdw st fr (some o)=fun _=>bdV (ev st fr o):=rfl
def j50 (size:Nat) (x:Option AV) (lo hi:Nat->Option Nat):Option AV:=ob x (fun v=>ja7 v
 (ob (hi 0) (fun hi'=>ob (lo 0) (fun lo'=>oif (Nat.beq (Nat.add hi' lo') 0) (some (.s .nilSlice)) none)))
 (fun b off len mc ex sz=>ob (hi len) (fun hi'=>ob (lo 0) (fun lo' =>
  oif (Nat.ble hi' mc) (oif (Nat.ble lo' hi') (oif (Nat.beq sz size) (some (.s (.slice b (Nat.add off (Nat.mul lo' size)) (Nat.sub hi' lo') (Nat.sub mc lo') ex sz))) none) none) none)))
 (fun rows=>ob (hi (jbo rows)) (fun hi'=>ob (lo 0) (fun lo' =>
  oif (Nat.ble hi' (jbo rows)) (oif (Nat.ble lo' hi') (oif (j0r size rows) (ob (ja5 (Nat.sub hi' lo') (jbh lo' rows)) (fun r=>some (.s (.lst r)))) none) none) none)))
 (ob (hi 0) (fun hi'=>ob (lo 0) (fun lo'=>oif (Nat.beq (Nat.add hi' lo') 0) (some (.s .emp)) none))))
theorem j3t {x:Od} {lo hi:Option Od}:pop st fr (.slice size x lo hi)=j50 size (ev st fr x) (jdw st fr lo) (jdw st fr hi):=rfl
theorem jss {b len l r:Nat} {ex:Bool} {lo hi:Nat->Option Nat} (h1:lo 0=some l) (h2:hi len=some r) (h3:l<=r) (h4:r<=mc):j50 size (some (.s (.slice b off len mc ex size))) lo hi=some (.s (.slice b (off+l*size) (r - l) (mc - l) ex size)):=by
 show ob (hi len) (fun hi'=>ob (lo 0) (fun lo'=>oif (Nat.ble hi' mc) (oif (Nat.ble lo' hi') (oif (Nat.beq size size) (some (AV.s (.slice b (off+lo'*size) (hi' - lo') (mc - lo') ex size))) none) none) none))=_
 rw[h1,h2]
 show oif (Nat.ble r mc) (oif (Nat.ble l r) (oif (Nat.beq size size) (some (AV.s (.slice b (off+l*size) (r - l) (mc - l) ex size))) none) none) none=_
 rw[jbv h4,jbv h3,f1f];rfl
theorem j51 {b len:Nat} {ex:Bool} (hk:k<=mc):j50 size (some (.s (.slice b off len mc ex size))) some (fun _=>some k)=some (.s (.slice b off k mc ex size)):=by
 rw[jss (lo:=some) (hi:=fun _=>some k) (l:=0) (r:=k) rfl rfl (f17 _) hk,f06,f1j,Nat.sub_zero,Nat.sub_zero]
theorem j52 {b len:Nat} {ex:Bool} (hk:k<=len) (hl:len<=mc):j50 size (some (.s (.slice b off len mc ex size))) (fun _=>some k) some=some (.s (.slice b (off+k*size) (len - k) (mc - k) ex size)):=jss rfl rfl hk hl
theorem j53 {b len r:Nat} {ex:Bool} (hk:k<=r) (hl:r<=mc):j50 size (some (.s (.slice b off len mc ex size))) (fun _=>some k) (fun _=>some r)=some (.s (.slice b (off+k*size) (r - k) (mc - k) ex size)):=jss rfl rfl hk hl
def j82 (size:Nat) (x:Option AV) (lo hi mx:Nat->Option Nat):Option AV:=ob x (fun v=>ob (hi 0) (fun hi'=>ob (lo 0) (fun lo'=>ob (mx 0) (fun m'=>ja7 v
 (oif (Nat.beq (Nat.add m' (Nat.add hi' lo')) 0) (some (.s .nilSlice)) none)
 (fun b off len mc ex sz =>
  oif (Nat.ble m' mc) (oif (Nat.ble hi' m') (oif (Nat.ble lo' hi') (oif (Nat.beq sz size) (some (.s (.slice b (Nat.add off (Nat.mul lo' size)) (Nat.sub hi' lo') (Nat.sub m' lo') true sz))) none) none) none) none)
 (fun _=>oif (Nat.beq (Nat.add m' (Nat.add hi' lo')) 0) (some (.s .emp)) none)
 (oif (Nat.beq (Nat.add m' (Nat.add hi' lo')) 0) (some (.s .emp)) none)))))
theorem j0i {x:Od} {lo hi mx:Option Od}:pop st fr (.slice3 size x lo hi mx)=j82 size (ev st fr x) (jdw st fr lo) (jdw st fr hi) (jdw st fr mx):=rfl
theorem j3u {b len l r m:Nat} {ex:Bool} (h3:l<=r) (h4:r<=m) (h5:m<=mc):j82 size (some (.s (.slice b off len mc ex size))) (fun _=>some l) (fun _=>some r) (fun _=>some m)=some (.s (.slice b (off+l*size) (r - l) (m - l) true size)):=by
 show oif (Nat.ble m mc) (oif (Nat.ble r m) (oif (Nat.ble l r) (oif (Nat.beq size size) (some (AV.s (.slice b (off+l*size) (r - l) (m - l) true size))) none) none) none) none=_
 rw[jbv h5,jbv h4,jbv h3,f1f];rfl
theorem j3v {b o n b' o' m mc' sz' bytes:Nat} {ex ex':Bool} {e ty:TypeId} {new:List SV} (k:Ok h) (hm:n+m<=mc) (hr:rdB (h.get b') o' (m*size)=some new) (hb:h.get b=some (.arr cs ty)) (hw:ja0 (o+n*size) new cs=some cs') :
 j1o h e size bytes (.s (.slice b o n mc ex size)) (.s (.slice b' o' m mc' ex' sz'))=some (.s (.slice b o (n+m) mc ex size),h.put b (some (.arr cs' ty))):=by
 show ob (rdB (h.get b') o' (m*size)) (fun new=>oif (Nat.beq size size) (oif (Nat.ble (n+m) mc) (ob (wr h b (o+n*size) new) (fun h=>ok (AV.s (.slice b o (n+m) mc ex size)) h)) (jgs bytes (Nat.add n m) (jgr h e size b o n m ex new))) none)=_
 rw[hr]
 show oif (Nat.beq size size) (oif (Nat.ble (n+m) mc) (ob (wr h b (o+n*size) new) (fun h=>ok (AV.s (.slice b o (n+m) mc ex size)) h)) (jgs bytes (Nat.add n m) (jgr h e size b o n m ex new))) none=_
 rw[f1f,jbv hm,j0b k,hb,jkp,hw]
 rfl
def j8m (h:Hp) (z:List SV) (x:Option AV):R:=ob x (fun v=>jd7 v (ok (.tup []) h) (fun b off n _ _ _=>Nat.casesOn (motive:=fun _=>R) n (ok (.tup []) h) (fun _=>ob (wr h b off (rep z n)) (fun h=>ok (.tup []) h))))
theorem j0j {x:Od}:jb6 st fr h (.clear z x)=j8m h z (ev st fr x):=rfl
theorem j3w {b o:Nat} {ex:Bool} {ty:TypeId} (k:Ok h) (hb:h.get b=some (.arr cs ty)) (hw:ja0 o (z++[]) cs=some cs'):j8m h z (some (.s (.slice b o 1 mc ex sz)))=some (.tup [],h.put b (some (.arr cs' ty))):=by
 show ob (wr h b o (rep z 1)) (fun h=>ok (.tup []) h)=_
 have e:rep z 1=z++[]:=jb1 ..
 rw[e,j0b k,hb,jkp,hw]
 rfl
end
theorem jqd {α:Type} {enc:α->List SV} (hs:∀ a,(enc a).length=sz):∀ {l:List α} {i:Nat},(l.flatMap enc).drop (i*sz)=(l.drop i).flatMap enc
 | l,0=>by simp
 | [],i+1=>by simp
 | a::l,i+1=>by
  have h3:(i+1)*sz=sz+i*sz:=by rw[f1l,f2k,f2q]
  rw[f01,List.drop_append,f1k (by rw[hs,h3];omega),hs,h3,f19,jqd hs]
  rfl
theorem jqe {α:Type} {enc:α->List SV} (hs:∀ a,(enc a).length=sz):∀ {l:List α} {i:Nat},(l.flatMap enc).take (i*sz)=(l.take i).flatMap enc
 | l,0=>by simp
 | [],i+1=>by simp
 | a::l,i+1=>by
  have h3:(i+1)*sz=sz+i*sz:=by rw[f1l,f2k,f2q]
  rw[f01,List.take_append,f0s (by rw[hs,h3];omega),hs,h3,f19,jqe hs,List.take_succ_cons,f01]
def zMo:List SV:=[si 0,si 0,si 0,si 0,si 0,si 0]
theorem j3x {F:Fns} (hX:∀ vs h,jig F 17 vs h=none) (hT:jzv F 17=T 17)
 {h:Hp} (ok:Ok h) {l:List Mo} {X:SV} {b i:Nat} (hl:l.length<=1000) (ol:OX h X l b) (hi:i<l.length) {Q:AV->Hp->Prop}
 (hQ:∀ h' X',Ok h'->h'.next=h.next->(∀ n,n≠b->h'.get n=h.get n)->OX h' X' (l.eraseIdx i) b->Q (.s X') h') :
 WC F 17 [.s X,vi (i:Int),vi ((i+1:Nat):Int)] h Q:=by
 refine jbz (hX _ _) (hT.trans j7p) rfl ?_
 unfold j1g
 rcases ol with⟨rfl,_,_⟩ | ⟨mc,tl,rfl,hmc,hb1,hb2,hg,htl⟩
 .simp at hi
 obtain⟨n,hn⟩:∃ n,l.length=n:=⟨_,rfl⟩
 rw[hn] at hl hi hmc htl
 have c1:((i:Int)=((i+1:Nat):Int))=False:=eq_false (by omega)
 have fl:=jbk jaj l
 rw[hn] at fl
 have dl:((l.drop (i+1)).flatMap jad).length=(n - (i+1))*6:=by rw[jbk jaj,f1p,hn]
 have hr:rdB (some (.arr (l.flatMap jad++tl) 39)) ((i+1)*6) ((n - (i+1))*6)=some ((l.drop (i+1)).flatMap jad):=by
  rw[jfx,jcj,f1q (by omega),jqd jaj]
  exact(jap _).2 ⟨by rw[f0j,dl];omega,by rw[f04 (by omega),f0s (by omega)]⟩
 obtain⟨C1,hC1⟩:∃ C1,ja0 (i*6) ((l.drop (i+1)).flatMap jad) (l.flatMap jad++tl)=some C1:=⟨_,(ja6 _).2 ⟨by rw[dl,f0j];omega,rfl⟩⟩
 obtain⟨w1,w2⟩:=(ja6 _).1 hC1
 have er:l.eraseIdx i=l.take i++l.drop (i+1):=List.eraseIdx_eq_take_drop_succ ..
 have le:(l.eraseIdx i).length=n - 1:=by rw[List.length_eraseIdx,hn,if_pos hi]
 have eC:C1=(l.eraseIdx i).flatMap jad++(l.flatMap jad++tl).drop ((n - 1)*6):=by
  rw[w2,f04 (by omega),jqe jaj,dl,er,List.flatMap_append,f1b]
  congr 3
  omega
 obtain⟨h1,e1,ok1,n1,x1,g1⟩:=ju4 ok hb1 (some (.arr C1 39))
 have fe:=jbk jaj (l.eraseIdx i)
 rw[le] at fe
 obtain⟨C2,hC2⟩:∃ C2,ja0 ((n - 1)*6) (zMo++[]) C1=some C2:=⟨_,(ja6 _).2 ⟨by
  rw[eC]
  show(n - 1)*6+6<=_
  rw[f0j,f1p,f0j,fl,fe]
  omega,rfl⟩⟩
 obtain⟨w3,w4⟩:=(ja6 _).1 hC2
 obtain⟨h2,e2,ok2,n2,x2,g2⟩:=ju4 ok1 hb1 (some (.arr C2 39))
 have eC2:C2=(l.eraseIdx i).flatMap jad++(zMo++C1.drop ((n - 1)*6+6)):=by
  rw[w4,eC,f04 (by omega),f0s (by omega)];rfl
 have lC1:C1.length=mc*6:=by
  rw[eC,f0j,fe,f1p,f0j,fl,htl];omega
 have fin:Q (.s (.slice b 0 (n - 1) mc false 6)) h2:=by
  refine hQ h2 _ ok2 (by omega) (fun m hm=>(g2 m hm).trans (g1 m hm)) (.inr ⟨mc,zMo++C1.drop ((n - 1)*6+6),by rw[le],by omega,hb1,by omega,by rw[x2,eC2],?_⟩)
  rw[le,f0j,f1p,lC1];show 6+_=_;omega
 have a1:j1o h 39 6 48 (.s (.slice b 0 i mc false 6)) (.s (.slice b ((i+1)*6) (n - (i+1)) (mc - (i+1)) false 6))=some (.s (.slice b 0 (n - 1) mc false 6),h1):=by
  have:=j3v (bytes:=48) (e:=39) (o:=0) (ex:=false) (ex':=false) (mc':=mc - (i+1)) (sz':=6) ok (show i+(n - (i+1))<=mc by omega) (by rw[hg];exact hr) hg (by rw[f0l];exact hC1)
  rw[this,e1,show i+(n - (i+1))=n - 1 by omega]
 have a2:j8m h1 zMo (some (.s (.slice b ((n - 1)*6) 1 (mc - (n - 1)) false 6)))=some (.tup [],h2):=by
  rw[j3w ok1 x1 hC2,e2]
 have e3:n - (n - 1)=1:=by omega
 unfold zMo at a2
 simp(disch:=first|omega|rfl) only[go_sem,hn,j0i,jty,jtx,j5z,j3u,c1]
 unfold jw0
 simp(disch:=first|omega|rfl) only[go_sem,hn,j3t,jty,jtx,j5z,j51,j52,j53,a1,j0j,e3,a2]
 exact fin
def jaz {κ:Type} [DecidableEq κ]:List (κ×Nat)->κ->Option Nat
 | [],_=>none
 | p::r,k=>if k=p.1 then some p.2 else jaz r k
def jo4 {κ:Type} [DecidableEq κ]:List (κ×Nat)->κ->Nat->List (κ×Nat)
 | [],k,v=>[(k,v)]
 | p::r,k,v=>if k=p.1 then (p.1,v)::r else p::jo4 r k v
theorem jux {κ:Type} [DecidableEq κ] {p:κ×Nat} {r:List (κ×Nat)} {k:κ}:jaz (p::r) k=if k=p.1 then some p.2 else jaz r k:=rfl
theorem jyv {κ:Type} [DecidableEq κ] {p:κ×Nat} {r:List (κ×Nat)} {k:κ}:jo4 (p::r) k v=if k=p.1 then (p.1,v)::r else p::jo4 r k v:=rfl
theorem jfd {κ:Type} [DecidableEq κ]:∀ (L:List (κ×Nat)) (k c:κ) (v:Nat),jaz (jo4 L k v) c=if c=k then some v else jaz L c
 | [],k,c,v=>by unfold jo4 jaz jaz;rfl
 | p::r,k,c,v=>by
  unfold jo4
  by_cases h:k=p.1
  .rw [if_pos h]
   show(if c=p.1 then some v else jaz r c)=if c=k then some v else (if c=p.1 then some p.2 else jaz r c)
   subst h
   by_cases hc:c=p.1
   .rw [if_pos hc,if_pos hc]
   .rw [if_neg hc,if_neg hc,if_neg hc]
  .rw [if_neg h]
   show(if c=p.1 then some p.2 else jaz (jo4 r k v) c)=if c=k then some v else (if c=p.1 then some p.2 else jaz r c)
   rw[jfd r k c v]
   by_cases hc:c=p.1
   .rw [if_pos hc,if_pos hc,if_neg (fun e=>h (by rw[←e,hc]))]
   .rw [if_neg hc,if_neg hc]
theorem jqf {κ:Type} [DecidableEq κ]:∀ (L:List (κ×Nat)) (k:κ) (v:Nat),jaz L k=none->jo4 L k v=L++[(k,v)]
 | [],k,v,_=>rfl
 | p::r,k,v,h=>by
  unfold jaz at h
  by_cases hk:k=p.1
  .rw [if_pos hk] at h;cases h
  .rw [if_neg hk] at h
   unfold jo4
   rw[if_neg hk,jqf r k v h];rfl
theorem jhy {κ:Type} [DecidableEq κ]:∀ (L:List (κ×Nat)) (k:κ),jaz L k=none↔k∉L.map (·.1)
 | [],k=>by simp[jaz]
 | p::r,k=>by
  unfold jaz
  by_cases hk:k=p.1
  .rw [if_pos hk];simp[hk]
  .rw [if_neg hk,jhy r k];simp[hk]
theorem jqg {κ:Type} [DecidableEq κ]:∀ (L:List (κ×Nat)) (k:κ) (v:Nat),jaz L k=some v->(k,v)∈L
 | [],k,v,h=>by cases h
 | p::r,k,v,h=>by
  unfold jaz at h
  by_cases hk:k=p.1
  .rw [if_pos hk] at h
   cases h
   rw[hk];simp
  .rw [if_neg hk] at h
   exact f0p _ (jqg r k v h)
structure KE {κ:Type} [DecidableEq κ] (sig:List Bool) (enc:κ->List SV):Prop where
 eq:∀ a b,jah sig (enc a) (enc b)=some (decide (a=b))
 len:∀ a,(enc a).length=sig.length
theorem j83:KE [false,false,false] jbm:=⟨fun a b=>by
 have h:=j0h (a:=a.k) (b:=a.c) (c:=a.n) (a':=b.k) (b':=b.c) (c':=b.n)
 have h2:j5y false true [false,false,false] (some (.agg [si a.k,si a.c,si a.n])) (some (.agg [si b.k,si b.c,si b.n]))=ob (jah [false,false,false] (jbm a) (jbm b)) (fun e=>some (AV.s (SV.bool e))):=rfl
 rw[h2] at h
 obtain⟨e,h3,h4⟩:=jaa.1 h
 rw[h3]
 have h5:e=decide (a.k=b.k/\a.c=b.c/\a.n=b.n):=by
  have:=Option.some.inj h4
  injection this with this
  injection this
 rw[h5]
 exact congrArg some (decide_eq_decide.2 Pl.eq_iff.symm),fun _=>rfl⟩
def jlb (n:Nat):List SV:=[si n]
theorem j84:KE [false] jlb:=⟨fun a b=>by
 show some (oif (ieq (a:Int) (b:Int)) true false)=_
 rw[jbj]
 have e1:((a:Int)=(b:Int))↔a=b:=by omega
 by_cases h:a=b<;>simp[e1,h,jag],fun _=>rfl⟩
def esK {κ:Type} (enc:κ->List SV) (L:List (κ×Nat)):List (List SV×List SV):=L.map (fun p=>(enc p.1,[si p.2]))
section
variable {κ:Type} [DecidableEq κ] {sig:List Bool} {enc:κ->List SV}
theorem jst (K:KE sig enc) (k:κ):∀ L:List (κ×Nat),jed sig (enc k) (esK enc L)=some ((jaz L k).map (fun(v:Nat)=>[si (v:Int)]))
 | []=>rfl
 | p::r=>by
  show ob (jah sig (enc k) (enc p.1)) (fun b=>oif b (some (some [si p.2])) (jed sig (enc k) (esK enc r)))=_
  rw[K.eq,jst K k r,jux]
  by_cases h:k=p.1
  .rw [if_pos h,decide_eq_true h];rfl
  .rw [if_neg h,decide_eq_false h];rfl
theorem jyw (K:KE sig enc) (k:κ) (v:Nat):∀ L:List (κ×Nat),jql sig (enc k) [si v] (esK enc L)=some (esK enc (jo4 L k v))
 | []=>rfl
 | p::r=>by
  show ob (jah sig (enc k) (enc p.1)) (fun b=>oif b (some ((enc p.1,[si v])::esK enc r)) (ob (jql sig (enc k) [si v] (esK enc r)) (fun l=>some ((enc p.1,[si p.2])::l))))=_
  rw[K.eq,jyw K k v r,jyv]
  by_cases h:k=p.1
  .rw [if_pos h,decide_eq_true h];rfl
  .rw [if_neg h,decide_eq_false h];rfl
end
section
variable {st fr:List AV} {h:Hp} {b:Nat} {okf:Bool}
def j0k (h:Hp) (sig:List Bool) (va:Bool) (z:List SV) (okf:Bool) (x k:Option AV):R :=
 ob x (fun m=>ob k (fun kv=>jmk (kag sig) kv (fun kc=>oif (Nat.beq (jbo kc) (jbo sig)) (jzf m (ja1 h va okf z false) (fun b=>ob (h.get b) (fun B=>AB.casesOn (motive:=fun _=>R) B (fun _ _=>none)
  (fun va' es=>oif (jqq va va') (ob (jed sig kc es) (fun r=>Option.rec (motive:=fun _=>R) (ja1 h va okf z false) (fun v=>ja1 h va okf v true) r)) none)))) none)))
theorem jd6 {sig:List Bool} {x k:Od}:jb6 st fr h (.look sig va z okf x k)=j0k h sig va z okf (ev st fr x) (ev st fr k):=rfl
def j0l (h:Hp) (okf:Bool) (x:Option Nat):R:=ja1 h false okf [si (x.getD 0)] x.isSome
theorem jyx {L:List (Pl×Nat)} {k:Pl} (hb:h.get b=some (.map false (esK jbm L))):j0k h [false,false,false] false [.int .i64 0] okf (some (.s (.map b))) (some (.agg [si k.k,si k.c,si k.n]))=j0l h okf (jaz L k):=by
 show ob (h.get b) (fun B=>AB.casesOn (motive:=fun _=>R) B (fun _ _=>none) (fun va' es=>oif (jqq false va') (ob (jed [false,false,false] (jbm k) es) _) none))=_
 rw[hb]
 show ob (jed [false,false,false] (jbm k) (esK jbm L)) _=_
 rw[jst j83]
 cases jaz L k<;>rfl
theorem jyy {L:List (Nat×Nat)} (hb:h.get b=some (.map false (esK jlb L))):j0k h [false] false [.int .i64 0] okf (some (.s (.map b))) (some (vi (k:Int)))=j0l h okf (jaz L k):=by
 show ob (h.get b) (fun B=>AB.casesOn (motive:=fun _=>R) B (fun _ _=>none) (fun va' es=>oif (jqq false va') (ob (jed [false] (jlb k) es) _) none))=_
 rw[hb]
 show ob (jed [false] (jlb k) (esK jlb L)) _=_
 rw[jst j84]
 cases jaz L k<;>rfl
theorem je5 {x:Option Nat}:j0l h true x=some (.tup [(false,[si (x.getD 0)]),(false,[.bool x.isSome])],h):=rfl
theorem j3y {x:Option Nat}:j0l h false x=some (vi ((x.getD 0:Nat):Int),h):=rfl
def j8n (h:Hp) (sig:List Bool) (va:Bool) (x k v:Option AV):R :=
 ob x (fun m=>ob k (fun kv=>ob v (fun vv=>jmk (kag sig) kv (fun kc=>oif (Nat.beq (jbo kc) (jbo sig)) (jmk va vv (fun vc=>jzf m none (fun b=>oif (Nat.ble h.lo b) (ob (h.get b) (fun B=>AB.casesOn (motive:=fun _=>R) B (fun _ _=>none)
  (fun va' es=>oif (jqq va va') (ob (jql sig kc vc es) (fun es'=>ok .undef (h.put b (some (.map va' es'))))) none))) none))) none))))
theorem jlc {sig:List Bool} {x k v:Od}:jb6 st fr h (.mupd sig va x k v)=j8n h sig va (ev st fr x) (ev st fr k) (ev st fr v):=rfl
theorem j8o [ok:Ok h] {L:List (Pl×Nat)} {k:Pl} (hb:h.get b=some (.map false (esK jbm L))):j8n h [false,false,false] false (some (.s (.map b))) (some (.agg [si k.k,si k.c,si k.n])) (some (vi (v:Int)))=some (.undef,h.put b (some (.map false (esK jbm (jo4 L k v))))):=by
 show oif (Nat.ble h.lo b) (ob (h.get b) (fun B=>AB.casesOn (motive:=fun _=>R) B (fun _ _=>none) (fun va' es=>oif (jqq false va') (ob (jql [false,false,false] (jbm k) [si v] es) (fun es'=>Ev.ok .undef (h.put b (some (.map va' es'))))) none))) none=_
 rw[ok.lo,hb]
 show ob (jql [false,false,false] (jbm k) [si v] (esK jbm L)) _=_
 rw[jyw j83]
 rfl
theorem j3z [ok:Ok h] {L:List (Nat×Nat)} (hb:h.get b=some (.map false (esK jlb L))):j8n h [false] false (some (.s (.map b))) (some (vi (k:Int))) (some (vi (v:Int)))=some (.undef,h.put b (some (.map false (esK jlb (jo4 L k v))))):=by
 show oif (Nat.ble h.lo b) (ob (h.get b) (fun B=>AB.casesOn (motive:=fun _=>R) B (fun _ _=>none) (fun va' es=>oif (jqq false va') (ob (jql [false] (jlb k) [si v] es) (fun es'=>Ev.ok .undef (h.put b (some (.map va' es'))))) none))) none=_
 rw[ok.lo,hb]
 show ob (jql [false] (jlb k) [si v] (esK jlb L)) _=_
 rw[jyw j84]
 rfl
theorem jo5 [k:Ok h]:jb6 st fr h (.mkmap va)=some (.s (.map h.next),h.push (.map va [])):=by
 show nwx h (.map va []) (fun n h=>Ev.ok (.s (.map n)) h)=_
 rw[j5t k];rfl
theorem j6m {h:Hp} (ok:Ok h) (x:AB):∃ hA,h.push x=hA/\Ok hA/\hA.next=h.next+1/\hA.get h.next=some x/\∀ k,k<h.next->hA.get k=h.get k :=
 ⟨_,rfl,jc2 ok,Hp.next_push ..,by rw[jau ok,if_pos rfl],fun k hk=>by rw[jau ok,if_neg (by omega)]⟩
end
section
variable {F:Fns} {st fr:List AV} {es:List Ent} {h:Hp} {dst:Option Nat} {l:List (IOper×Option (List Nat))} {Q:Ex->St->Prop} {js:List Nat}
theorem jqh {sig:List Bool} {okf:Bool} {x y:Od} {u:AV} (k:Ok h) (hs:sel es js []=some []) (ha:∀ h':Hp,(∀ n,h'.get n=h.get n)->j0k h' sig va z okf (ev st fr x) (ev st fr y)=some (u,h')) :
 WD F ((.mk dst (.a (.look sig va z okf x y)) none,some js)::l) st es fr h Q=WD F l (u::st) (.mk [(h.next,h.next)] none::es) (jbc fr dst u) h Q:=by
 rw[jrd (x:=some (DR.mk u h (.mk [(h.next,h.next)] none))) (fun cl=>?_)]
 .exact jay
 .cases h with
  | mk n1 t lo hid =>
  obtain rfl:hid=[]:=k.hid
  obtain rfl:lo=0:=k.lo
  have hi:iop cl st fr (.mk n1 t n1 []) (.a (.look sig va z okf x y))=some (u,.mk n1 t n1 []):=ha _ (fun n=>rfl)
  show ob (sel es js []) (fun hid'=>jh1 cl st fr n1 t 0 n1 [] hid' (.a (.look sig va z okf x y)) (fun n'=>.mk [(n1,n')] none))=_
  rw[hs]
  show ob (iop cl st fr (.mk n1 t n1 []) (.a (.look sig va z okf x y))) _=_
  rw[hi]
  rfl
theorem jgp {x:Od} {ys:List Od} {f:FuncId} {caps:List (Nat×Nat)} {vs:List AV} {hd:List (Nat×Nat)} (ok:Ok h) (hs:sel es js []=some hd) (hx:ev st fr x=some (.s (.func f caps))) (hv:evs st fr ys=some vs)
 (k:WC F f (vs++jbp caps) (h.hide h.next hd) (j0g F dst l st es fr h Q)):WD F ((.mk dst (.a (.callv x ys)) none,some js)::l) st es fr h Q:=by
 rw[jhd]
 obtain⟨n,v,h',h2,h3⟩:=k
 refine⟨n,v,.mk h'.next h'.tr h.lo h.hid,.mk [(h.next,h'.next)] none,?_,h3⟩
 cases h with
 | mk n1 t lo hid =>
 obtain rfl:hid=[]:=ok.hid
 show ob (sel es js []) (fun hid'=>ob (ob (ev st fr x) (fun v=>jmi v (fun f caps=>ob (evs st fr ys) (fun vs=>jam F (run F n) f (jeb vs (jbp caps)) (.mk n1 t n1 hid'))))) (fun p=>Hp.casesOn (motive:=fun _=>Option DR) p.2 (fun n' t' _ _=>some (.mk p.1 (.mk n' t' lo []) (.mk [(n1,n')] none)))))=_
 rw[hs,hx]
 show ob (ob (evs st fr ys) (fun vs=>jam F (run F n) f (jeb vs (jbp caps)) (.mk n1 t n1 hd))) _=_
 rw[hv]
 show ob (jam F (run F n) f (jeb vs (jbp caps)) (.mk n1 t n1 hd)) _=_
 rw[jb1,show jam F (run F n) f (vs++jbp caps) (.mk n1 t n1 hd)=some (v,h') from h2]
 cases h'
 rfl
end
end
end Go.Proofs.Ytmcfkgjjnhlkiaa.Ev
