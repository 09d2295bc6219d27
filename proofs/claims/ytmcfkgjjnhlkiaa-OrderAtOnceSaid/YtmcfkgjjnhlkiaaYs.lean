/- OrderAtOnce: the law's walk. -/
import Derived.Test.YtmcfkgjjnhlkiaaYo
import Derived.Test.YtmcfkgjjnhlkiaaRec
namespace Go.Proofs.Ytmcfkgjjnhlkiaa.Ev
open Go Go.RowKit Go.Proofs.Ytmcfkgjjnhlkiaa.Ms
attribute [local go_sem] Int.reduceToNat reduceCtorEq Nat.reduceAdd Nat.reduceMul Nat.reduceEqDiff Int.reduceEq Int.reduceLT Int.reduceLE Int.reduceNeg Int.reduceAdd Int.reduceSub Int.reduceMul Int.reduceNe
attribute [local go_sem ↓] reduceIte
set_option linter.all false
set_option maxRecDepth 100000
set_option maxHeartbeats 8000000
variable {x14 x32 x33:AV} {h:Hp} {fr:Nat} {X:SV}
theorem j59 {l:List Mo} (hl:l.length<=1000) (hs:∀ x∈l,Sml x) (lX:LsE jad 6 X l) {mw n0:Nat} (m1:1<=mw) (lm:mw<n0) {x0 x1 x2 x3 x4 x5 x6 x7 x8 x9 x10 x11 x12 x13 x15 x16 x17 x18 x19 x20 x21 x22 x23 x30 x31:AV} {Q:Ex->St->Prop} :
 ∀ (d i:Nat) (_:i+d=l.length) {h:Hp} (_:Ok h) (_:n0<=h.next) (_:h.get mw=some (.map false (esK jlb (jin (l.take i))))) {x24 x27:AV}
  (hQ:∀ h' x24 x27,Ok h'->h.next<=h'.next->(∀ n,n<h.next->n≠mw->h'.get n=h.get n)->h'.get mw=some (.map false (esK jlb (jin l)))->Q (.exit 0) (.mk [x0,x1,x2,x3,x4,x5,x6,x7,x8,x9,x10,x11,x12,x13,x14,x15,x16,x17,x18,x19,x20,x21,x22,x23,x24,.s (.map mw),.s X,x27,vi l.length,vi l.length,x30,x31,x32,x33] h')),
  W G3 jnh.loop (.mk [x0,x1,x2,x3,x4,x5,x6,x7,x8,x9,x10,x11,x12,x13,x14,x15,x16,x17,x18,x19,x20,x21,x22,x23,x24,.s (.map mw),.s X,x27,vi l.length,vi i,x30,x31,x32,x33] h) Q
 | 0,i,hd,h,ok,hn,xm,x24,x27,hQ=>by
  obtain rfl:i=l.length:=by omega
  rw[f0s (f0b _)] at xm
  rw[jbg]
  unfold jnh
  simp(disch:=first|omega|rfl) only[go_sem,f1r]
  exact hQ h _ _ ok (f0b _) (fun _ _ _=>rfl) xm
 | d+1,i,hd,h,ok,hn,xm,x24,x27,hQ=>by
  have hil:i<l.length:=by omega
  have hlt:(i:Int)<(l.length:Int):=by omega
  have hsu:(i:Int)+1=((i+1:Nat):Int):=by omega
  obtain⟨y,hu⟩:∃ u,l[i]?=some u:=⟨_,f0g hil⟩
  obtain⟨⟨s1,s2,s3⟩,s4,s5,s6⟩:=hs y (f0t hu)
  have ix:=lX.at_ hu
  have et:jin (l.take (i+1))=jbw (jin (l.take i)) y:=by
   unfold jin
   rw[f0z hil,(f0e.1 hu).2,f2f];rfl
  obtain⟨hA,eA,okA,nA,xA,gA⟩:=jsq ok [.int .i64 0,.int .i64 0,.int .i64 0,.int .i64 0,.int .i64 0,.int .i64 0] (jad y) 39
  have ym:=(gA mw (by omega)).trans xm
  have cF:∀ (Q:AV->Hp->Prop) (h:Hp),WC G3 8 [.agg [si y.fr.k,si y.fr.c,si y.fr.n]] h Q=Q (vi ((jav y.fr:Nat):Int)) h:=fun Q h=>jfe s1 s2 s3
  have cT:∀ (Q:AV->Hp->Prop) (h:Hp),WC G3 8 [.agg [si y.to.k,si y.to.c,si y.to.n]] h Q=Q (vi ((jav y.to:Nat):Int)) h:=fun Q h=>jfe s4 s5 s6
  obtain⟨a,ea⟩:∃ a,jav y.fr=a:=⟨_,rfl⟩
  obtain⟨z,ez⟩:∃ a,jav y.to=a:=⟨_,rfl⟩
  rw[ea] at cF
  rw[ez] at cT
  have uA:=j3z (k:=z) (v:=a) ym
  have es:jo4 (jin (l.take i)) z a=jin (l.take (i+1)):=by rw[et];unfold jbw;rw[ea,ez]
  rw[es] at uA
  obtain⟨hB,eB,okB,nB,xB,gB⟩:=ju4 okA m1 (some (.map false (esK jlb (jin (l.take (i+1))))))
  rw[eB] at uA
  have hh:(hA.next<=h.next/\h.next<hA.next)=False:=eq_false (by omega)
  unfold jad at eA xA ix
  rw[jbg]
  unfold jnh jxd
  simp(disch:=first|omega|rfl) only[go_sem,eq_true hlt,ix,eA,xA,cF,cT,hh,jlc,uA,jak,hsu]
  refine j59 hl hs lX m1 lm d (i+1) (by omega) okB (by omega) xB (fun h' y24 y27 q1 q2 q3 q4=>hQ h' y24 y27 q1 (by omega) (fun n h1 h2=>(q3 n (by omega) h2).trans ((gB n h2).trans (gA n h1))) q4)
theorem j6a {l:List Mo} (hl:l.length<=1000) (hs:∀ x∈l,Sml x/\¬(x.fr.k=2/\x.to.k=2)) (lX:LsE jad 6 X l) {bg mg n0:Nat} (b1:1<=bg) (m1:1<=mg) (hbm:bg≠mg) (lb:bg<n0) (lm:mg<n0) {x0 x1 x2 x3 x4 x5 x6 x7 x8 x9 x10 x11 x12 x13 x22 x24 x25 x26 x27 x28 x29 x30 x31:AV} {Q:Ex->St->Prop} :
 ∀ (d i:Nat) (_:i+d=l.length) {h:Hp} (_:Ok h) (_:n0<=h.next) (_:h.get bg=some (.arr [.map mg] 35)) (_:h.get mg=some (.map false (esK jlb (jfm (l.take i))))) {x16 x17 x19:AV}
  (hQ:∀ h' x16 x17 x19,Ok h'->h.next<=h'.next->(∀ n,n<h.next->n≠mg->h'.get n=h.get n)->h'.get mg=some (.map false (esK jlb (jfm l)))->Q (.exit 2) (.mk [x0,x1,x2,x3,x4,x5,x6,x7,x8,x9,x10,x11,x12,x13,x14,.s (.func 9 [(bg,0)]),x16,x17,.s X,x19,vi l.length,vi l.length,x22,.s (.ptr bg 0),x24,x25,x26,x27,x28,x29,x30,x31,x32,x33] h')),
  W G3 jni.loop (.mk [x0,x1,x2,x3,x4,x5,x6,x7,x8,x9,x10,x11,x12,x13,x14,.s (.func 9 [(bg,0)]),x16,x17,.s X,x19,vi l.length,vi i,x22,.s (.ptr bg 0),x24,x25,x26,x27,x28,x29,x30,x31,x32,x33] h) Q
 | 0,i,hd,h,ok,hn,xb,xm,x16,x17,x19,hQ=>by
  obtain rfl:i=l.length:=by omega
  rw[f0s (f0b _)] at xm
  rw[jbg]
  unfold jni
  simp(disch:=first|omega|rfl) only[go_sem,f1r]
  exact hQ h _ _ _ ok (f0b _) (fun _ _ _=>rfl) xm
 | d+1,i,hd,h,ok,hn,xb,xm,x16,x17,x19,hQ=>by
  have hil:i<l.length:=by omega
  have hlt:(i:Int)<(l.length:Int):=by omega
  have hsu:(i:Int)+1=((i+1:Nat):Int):=by omega
  obtain⟨y,hu⟩:∃ u,l[i]?=some u:=⟨_,f0g hil⟩
  obtain⟨⟨⟨s1,s2,s3⟩,s4,s5,s6⟩,sn⟩:=hs y (f0t hu)
  have ix:=lX.at_ hu
  have et:jfm (l.take (i+1))=jci (jfm (l.take i)) y:=by
   unfold jfm
   rw[f0z hil,(f0e.1 hu).2,f2f];rfl
  obtain⟨hA,eA,okA,nA,xA,gA⟩:=jsq ok [.int .i64 0,.int .i64 0,.int .i64 0,.int .i64 0,.int .i64 0,.int .i64 0] (jad y) 39
  have yb:=(gA bg (by omega)).trans xb
  have ym:=(gA mg (by omega)).trans xm
  have cF:∀ (Q:AV->Hp->Prop) (h:Hp),WC G3 8 [.agg [si y.fr.k,si y.fr.c,si y.fr.n]] h Q=Q (vi ((jav y.fr:Nat):Int)) h:=fun Q h=>jfe s1 s2 s3
  have cT:∀ (Q:AV->Hp->Prop) (h:Hp),WC G3 8 [.agg [si y.to.k,si y.to.c,si y.to.n]] h Q=Q (vi ((jav y.to:Nat):Int)) h:=fun Q h=>jfe s4 s5 s6
  obtain⟨a,ea⟩:∃ a,jav y.fr=a:=⟨_,rfl⟩
  obtain⟨z,ez⟩:∃ a,jav y.to=a:=⟨_,rfl⟩
  rw[ea] at cF
  rw[ez] at cT
  have uA:=j3z (k:=z) (v:=atL (jfm (l.take i)) a) ym
  have es:jo4 (jfm (l.take i)) z (atL (jfm (l.take i)) a)=jfm (l.take (i+1)):=by rw[et];unfold jci;rw[ea,ez]
  rw[es] at uA
  obtain⟨hB,eB,okB,nB,xB,gB⟩:=ju4 okA m1 (some (.map false (esK jlb (jfm (l.take (i+1))))))
  rw[eB] at uA
  have hh:(hA.next<=h.next/\h.next<hA.next)=False:=eq_false (by omega)
  have A1:(((y.fr.k:Int)=2)=True/\((y.to.k:Int)=2)=False)∨(((y.fr.k:Int)=2)=False/\((y.fr.k:Int)=2)=False):=by
   by_cases d1:y.fr.k=2
   .exact .inl ⟨eq_true (by omega),eq_false (by omega)⟩
   .exact .inr ⟨eq_false (by omega),eq_false (by omega)⟩
  unfold jad at eA xA ix
  rw[jbg]
  unfold jni jxf
  rcases A1 with⟨D1,D2⟩ | ⟨D1,D2⟩ <;>
   (simp(disch:=first|omega|rfl) only[go_sem,eq_true hlt,ix,eA,xA,yb,D1,D2]
    unfold jxe
    simp(disch:=first|omega|rfl) only[go_sem,xA,yb,cF,cT,hh]
    refine jgp (f:=9) (caps:=[(bg,0)]) (vs:=[vi (a:Int)]) (hd:=[]) okA ?h1 ?h2 ?h3 ?_
    case h1=>rfl
    case h2=>rfl
    case h3=>rfl
    refine jy6 (c:=a) ((jgq okA).trans yb) ((jgq okA).trans ym) ?_
    simp(disch:=first|omega|rfl) only[go_sem,jlc,uA,jak,hsu]
    refine j6a hl hs lX b1 m1 hbm lb lm d (i+1) (by omega) okB (by omega) ((gB bg hbm).trans yb) xB (fun h' y16 y17 y19 q1 q2 q3 q4=>hQ h' y16 y17 y19 q1 (by omega) (fun n h1 h2=>(q3 n (by omega) h2).trans ((gB n h2).trans (gA n h1))) q4))
theorem j6b {m:Nat×Nat} {k bg mg mw qm:Nat} (hk:k<=100) {G Wn:List (Nat×Nat)} (xb:h.get bg=some (.arr [.map mg] 35)) (xm:h.get mg=some (.map false (esK jlb G))) (xw:h.get mw=some (.map false (esK jlb Wn))) (xq:h.get qm=some (.arr [si m.1,si m.2] 25))
 (law:∀ c,c<100+k->¬(c<40/\c % 20=g2 m (c / 20))->atL G c=(jaz Wn c).getD c) {x0 x1 x2 x3 x4 x5 x6 x7 x16 x17 x18 x19 x20 x21 x22 x23 x24 x26 x27 x28 x29 x30 x31:AV} {Q:Ex->St->Prop} :
 ∀ (d c:Nat) (_:c+d=100+k) {x8 x9 x10 x11 x12 x13:AV}
  (hQ:∀ x8 x9 x10 x11 x12 x13,Q (.exit 4) (.mk [x0,x1,x2,x3,x4,x5,x6,x7,x8,x9,x10,x11,x12,x13,vi ((100+k:Nat):Int),.s (.func 9 [(bg,0)]),x16,x17,x18,x19,x20,x21,x22,x23,x24,.s (.map mw),x26,x27,x28,x29,x30,x31,vi (k:Int),.s (.ptr qm 0)] h)),
  W G3 jnj.loop (.mk [x0,x1,x2,x3,x4,x5,x6,x7,x8,x9,x10,x11,x12,x13,vi c,.s (.func 9 [(bg,0)]),x16,x17,x18,x19,x20,x21,x22,x23,x24,.s (.map mw),x26,x27,x28,x29,x30,x31,vi (k:Int),.s (.ptr qm 0)] h) Q
 | 0,c,hd,x8,x9,x10,x11,x12,x13,hQ=>by
  obtain rfl:c=100+k:=by omega
  have e1:(100:Int)+(k:Int)=((100+k:Nat):Int):=by omega
  rw[jbg]
  unfold jnj
  simp(disch:=first|omega|rfl) only[go_sem,jak,e1,f1r]
  exact hQ _ _ _ _ _ _
 | d+1,c,hd,x8,x9,x10,x11,x12,x13,hQ=>by
  have e1:(100:Int)+(k:Int)=((100+k:Nat):Int):=by omega
  have hlt:((c:Int)<((100+k:Nat):Int))=True:=eq_true (by omega)
  have hsu:(c:Int)+1=((c+1:Nat):Int):=by omega
  have rcs:=fun(x8 x9 x10 x11 x12 x13:AV)=>j6b hk xb xm xw xq law (x0:=x0) (x1:=x1) (x2:=x2) (x3:=x3) (x4:=x4) (x5:=x5) (x6:=x6) (x7:=x7) (x16:=x16) (x17:=x17) (x18:=x18) (x19:=x19) (x20:=x20) (x21:=x21) (x22:=x22) (x23:=x23) (x24:=x24) (x26:=x26) (x27:=x27) (x28:=x28) (x29:=x29) (x30:=x30) (x31:=x31) (Q:=Q) d (c+1) (by omega) (x8:=x8) (x9:=x9) (x10:=x10) (x11:=x11) (x12:=x12) (x13:=x13) hQ
  have main:¬(c<40/\c % 20=g2 m (c / 20))->∀ (z12:AV) (Q:Ex->St->Prop),(∀ z8 z9 z10 z11,Q .normal (.mk [x0,x1,x2,x3,x4,x5,x6,x7,z8,z9,z10,z11,z12,vb true,vi c,.s (.func 9 [(bg,0)]),x16,x17,x18,x19,x20,x21,x22,x23,x24,.s (.map mw),x26,x27,x28,x29,x30,x31,vi (k:Int),.s (.ptr qm 0)] h))->W G3 jrk (.mk [x0,x1,x2,x3,x4,x5,x6,x7,x8,x9,x10,x11,z12,vb true,vi c,.s (.func 9 [(bg,0)]),x16,x17,x18,x19,x20,x21,x22,x23,x24,.s (.map mw),x26,x27,x28,x29,x30,x31,vi (k:Int),.s (.ptr qm 0)] h) Q:=fun hns z12 Q hq=>by
   have hl:=law c (by omega) hns
   have lA:=jyy (okf:=true) (k:=c) xw
   unfold jrk
   cases hc:jaz Wn c with
   | none =>
    rw[hc] at lA hl
    have c1:(((atL G c:Nat):Int)≠(c:Int))=False:=eq_false (fun h=>h (by rw[hl];rfl))
    simp(disch:=first|omega|rfl) only[go_sem,jd6,lA,je5,f2i,f2b]
    unfold jrj
    simp(disch:=first|omega|rfl) only[go_sem]
    rw[jgm rfl]
    simp(disch:=first|omega|rfl) only[go_sem]
    refine jy6 (c:=c) xb xm ?_
    simp(disch:=first|omega|rfl) only[go_sem,c1]
    exact hq _ _ _ _
   | some v =>
    rw[hc] at lA hl
    have c1:(((atL G c:Nat):Int)≠(v:Int))=False:=eq_false (fun h=>h (by rw[hl];rfl))
    simp(disch:=first|omega|rfl) only[go_sem,jd6,lA,je5,f1y,Option.isSome_some]
    unfold jrj
    simp(disch:=first|omega|rfl) only[go_sem]
    rw[jgm rfl]
    simp(disch:=first|omega|rfl) only[go_sem]
    refine jy6 (c:=c) xb xm ?_
    simp(disch:=first|omega|rfl) only[go_sem,c1]
    exact hq _ _ _ _
  rw[jbg]
  unfold jnj jxg
  by_cases h40:c<40
  .have c40:((c:Int)<40)=True:=eq_true (by omega)
   have e2:(c:Int) % 20=((c % 20:Nat):Int):=by omega
   have e3:(c:Int).tdiv 20=((c / 20:Nat):Int):=rfl
   have ixm:ju3 2 1 (.s (.ptr qm 0)) (vi ((c / 20:Nat):Int))=some (.s (.ptr qm (c / 20))):=by
    have:c / 20=0∨c / 20=1:=by omega
    rcases this with h | h<;>(rw[h];rfl)
   obtain⟨g,hg⟩:∃ g,g2 m (c / 20)=g:=⟨_,rfl⟩
   have rdm:rdB (some (.arr [si m.1,si m.2] 25)) (c / 20) 1=some [si g]:=by
    have:c / 20=0∨c / 20=1:=by omega
    rcases this with h | h<;>(rw[←hg,h];rfl)
   by_cases he:c % 20=g
   .have c5:(((c % 20:Nat):Int)=(g:Int))=True:=eq_true (by omega)
    simp(disch:=first|omega|rfl) only[go_sem,jak,e1,hlt,c40,e2,e3,ixm,xq,rdm,c5,hsu]
    exact rcs _ _ _ _ _ _
   .have c5:(((c % 20:Nat):Int)=(g:Int))=False:=eq_false (by omega)
    simp(disch:=first|omega|rfl) only[go_sem,jak,e1,hlt,c40,e2,e3,ixm,xq,rdm,c5]
    refine main (fun h=>he (h.2.trans hg)) _ _ (fun z8 z9 z10 z11=>?_)
    simp(disch:=first|omega|rfl) only[go_sem,jak,hsu]
    exact rcs _ _ _ _ _ _
  .have c40:((c:Int)<40)=False:=eq_false (by omega)
   simp(disch:=first|omega|rfl) only[go_sem,jak,e1,hlt,c40]
   refine main (fun h=>h40 h.1) _ _ (fun z8 z9 z10 z11=>?_)
   simp(disch:=first|omega|rfl) only[go_sem,jak,hsu]
   exact rcs _ _ _ _ _ _
theorem jt3 {w:World} {b k:Nat} {u:Value} (h:w.cell? ⟨b,k,none⟩=some u):∃ c e fr,w.heap[b]?=some (.cells c e fr)/\c[k]?=some u:=by
 unfold World.cell? at h
 simp only at h
 split at h
 .rename_i c e fr hb
  exact⟨c,_,_,hb,by simpa using h⟩
 .cases h
def j1q (x:List Int):Sf:=⟨x.getD 0 0,x.getD 1 0,x.getD 2 0⟩
theorem j0o:∀ {x:List Int},x.length=3->jld (j1q x)=x.map (fun n=>si n)
 | [a,b,c],_=>rfl
theorem juy {W:World} {A2:Option Addr} {len cap:Nat} {xs:List (List Int)} (hl:xs.length=len) (hc:len<=cap) (hA:A2=none->cap=0) (hr:Recs 3 W A2 xs) :
 ∃ (k:Nat->Option (Array Value)) (xl:SV),jm2 k W/\LsE jld 3 xl (xs.map j1q)/\(∀ q∈xs.map j1q,SfIn q)/\∀ A,cS A (jzx k) xl (.slice A2 len cap):=by
 subst hl
 have pin:∀ q∈xs.map j1q,SfIn q:=fun q hq=>by
  obtain⟨x,hx,rfl⟩:=f0o.1 hq
  have hlen:=hr.len x hx
  have hw:=hr.wf x hx
  match x,hlen with
  | [a,b,c],_ =>
   have r:∀ n∈[a,b,c],-9223372036854775808<=n/\n<=9223372036854775807:=fun n hn=>jfa (hw n hn)
   exact⟨r a (by simp),r b (by simp),r c (by simp)⟩
 have emp:LsE jld 3 (.lst []) []:=⟨rfl,fun h=>by simp at h,rfl⟩
 cases A2 with
 | none =>
  have h1:=hA rfl
  have h2:xs=[]:=f02 (by omega)
  subst h2 h1
  exact⟨fun _=>none,.nilSlice,jg7 W,LsE.enc (l:=[]) (fun _=>rfl),pin,fun A=>rfl⟩
 | some ad =>
  rcases hr.at_ with rfl | ⟨b,off,e,hcell⟩
  .exact ⟨fun _=>none,.lst [],jg7 W,emp,pin,fun A=>.lst0 ad cap⟩
  .cases e
   cases xs with
   | nil=>exact⟨fun _=>none,.lst [],jg7 W,emp,pin,fun A=>.lst0 _ cap⟩
   | cons x0 xs =>
    have hx0:=hr.len x0 (by simp)
    obtain⟨n0,hn0⟩:∃ n,x0[0]?=some n:=⟨_,f0g (by omega)⟩
    have hc0:=hcell 0 x0 0 n0 rfl hn0
    obtain⟨cs,ty,fr,hb,_⟩:=jt3 hc0
    have hget:∀ (i:Nat) (x:List Int) (j:Nat) (n:Int),(x0::xs)[i]?=some x->x[j]?=some n->cs[off+i*3+j]?=some (.int .i64 n):=fun i x j n h1 h2=>by
     obtain⟨cs',ty',fr',hb',h3⟩:=jt3 (hcell i x j n h1 h2)
     rw[hb] at hb'
     cases hb'
     exact h3
    have row:∀ (i:Nat) (r:List SV),(((x0::xs).map j1q).map jld)[i]?=some r->∃ x,(x0::xs)[i]?=some x/\r=x.map (fun n=>si n):=fun i r h=>by
     rw[f1c,f1c] at h
     obtain⟨q,hq,rfl⟩:=f0a.1 h
     obtain⟨x,hx,rfl⟩:=f0a.1 hq
     exact⟨x,hx,j0o (hr.len x (f0t hx))⟩
    have one:∀ (i j:Nat) (r:List SV) (y:SV),(((x0::xs).map j1q).map jld)[i]?=some r->r[j]?=some y->∃ n,y=si n/\cs[off+i*3+j]?=some (.int .i64 n):=fun i j r y h1 h2=>by
     obtain⟨x,hx,rfl⟩:=row i r h1
     rw[f1c] at h2
     obtain⟨n,hn,rfl⟩:=f0a.1 h2
     exact⟨n,rfl,hget i x j n hx hn⟩
    refine⟨fun n=>if n=b then some cs else none,jij jld ((x0::xs).map j1q),fun b' cs' e=>?_,LsE.enc (fun _=>rfl),pin,fun A=>?_⟩
    .simp only at e
     split at e
     .rename_i h1;subst h1;cases e;exact⟨(ty,fr),hb⟩
     .cases e
    .have hrl:(((x0::xs).map j1q).map jld).length=(x0::xs).length:=by simp
     rw[←hrl]
     refine cD.lst _ b off cap 3 cs (fun i j=>(cs[off+i*3+j]?).getD (.bool false)) ?_ (by have:=hc;simp at this ⊢;exact this) (fun i r h=>?_) (fun i j r y h1 h2=>?_) (fun i j r y h1 h2=>?_)
     .exact if_pos rfl
     .obtain ⟨x,hx,rfl⟩:=row i r h
      rw[f05];exact hr.len x (f0t hx)
     .obtain ⟨n,rfl,h3⟩:=one i j r y h1 h2
      rw[h3];rfl
     .obtain ⟨n,rfl,h3⟩:=one i j r y h1 h2
      simp only[h3,f1y]
      exact .int _ _
theorem VP.sml {m:Nat×Nat} (m1:2<=m.1/\m.1<=10) (m2:2<=m.2/\m.2<=10) (hf:fr<=100) {p:Pl} (h:VP m fr p):p.k<=100/\p.c<=100/\p.n<=1000:=by
 rcases h.tell m1 m2 with⟨a1,a2,a3,a4⟩ | ⟨a1,a2,a3,a4⟩<;>omega
theorem j38 {m:Nat×Nat} {Z:List (Mo×Nat)} (zk:ZOk m fr Z):∃ out,OrdP m fr (Z.map (·.1)) out/\∀ h,jig G3 7 [.agg [si m.1,si m.2],.s (jij jad (Z.map (·.1))),.s (jij jqo (Z.map (·.2))),vi fr] h=some (j57 out,h):=by
 obtain⟨n,v,h',h1,out,h2,h3⟩:=jy4 zk (LsE.enc jaj) (LsE.enc jix) jp8
 refine⟨out,h2,fun h=>jd4 rfl ?_ ⟨n,v,h',h1,h3 true⟩⟩
 show oif (j5c (.agg [si m.1,si m.2])) (oif (grd (jij jad (Z.map (·.1)))) (oif (grd (jij jqo (Z.map (·.2)))) (oif (j5c (vi fr)) true false) false) false) false=true
 rw[joz,joz];rfl
theorem jo6 {k:Bool} {d:Nat} {a x:AV} {l r:List AV} (h1:jo7 k h d a=some x) (h2:jm5 k h d l=some r):jm5 k h d (a::l)=some (x::r):=jaa.2 ⟨x,h1,jaa.2 ⟨r,h2,rfl⟩⟩
theorem j39 {m:Nat×Nat} {x:Mo} (zk:ZOk m 0 [(x,0)]):∃ out,OrdP m 0 [x] out/\∀ h b b',h.get b=some (.arr (jad x) 39)->h.get b'=some (.arr [si 0] 3)->jig G3 7 [.agg [si m.1,si m.2],.s (.slice b 0 1 1 true 6),.s (.slice b' 0 1 1 true 1),vi 0] h=some (j57 out,h):=by
 have lX:LsE jad 6 (.lst [jad x]) [x]:=LsE.enc (l:=[x]) jaj
 have lC:LsE jqo 1 (.lst [[si 0]]) [0]:=LsE.enc (l:=[0]) jix
 obtain⟨n,v,h',h1,out,h2,h3⟩:=jy4 zk lX lC jp8
 refine⟨out,h2,fun h b b' g1 g2=>j2q rfl rfl ⟨[.agg [si m.1,si m.2],.s (.lst [jad x]),.s (.lst [[si 0]]),vi 0],3,?_,⟨n,v,h',h1,h3 false⟩⟩⟩
 have e1:jo7 true h 3 (.s (.slice b 0 1 1 true 6))=some (.s (.lst [jad x])):=by
  show ob (ob (rdB (h.get b) 0 (1*6)) _) _=_
  rw[g1];rfl
 have e2:jo7 true h 3 (.s (.slice b' 0 1 1 true 1))=some (.s (.lst [[si 0]])):=by
  show ob (ob (rdB (h.get b') 0 (1*1)) _) _=_
  rw[g2];rfl
 exact jo6 rfl (jo6 e1 (jo6 e2 (jo6 rfl rfl)))
theorem j6c (ok:Ok h) {a b f:Int} (ha:In6 a) (hb:In6 b) (hf:In6 f) {l:List Sf} (lin:∀ s∈l,SfIn s) (lX:LsE jld 3 X l):WC G3 3 [vi a,vi b,.s X,vi f] h (fun v _=>v=.s (.bool true)):=by
 refine jbz (j6n rfl rfl rfl) j7w rfl ?_
 unfold j1n
 have hp:=ok.pos
 have h1:=@jo2 a 9 (by omega)
 have h2:=@jo2 b 9 (by omega)
 have h3:=@jo2 f 9 (by omega)
 have cm:∀ (Q:AV->Hp->Prop) (h:Hp),WC G3 4 [vi a,vi b] h Q=Q (.agg [si ((2+pk a 9:Nat):Int),si ((2+pk b 9:Nat):Int)]) h:=fun Q h=>jbs ((jgk rfl).trans (jd4 rfl rfl (j3j jp8 ha hb)))
 have ck:∀ (Q:AV->Hp->Prop) (h:Hp),WC G3 5 [vi f,vi 9] h Q=Q (vi ((pk f 9:Nat):Int)) h:=fun Q h=>by
  have:=@jts h Q f 9 hf (by omega) (by omega)
  rw[←this]
  have e:jig G2 5 [vi f,vi 9] h=some (vi ((pk f 9:Nat):Int),h):=by
   rw[←@jo1 f 9 (by omega)]
   exact(jgk rfl).trans (jd4 rfl rfl (jhw hf.1 hf.2 (by omega) (by omega) ⟨1,rfl⟩))
  rw[this]
  exact jbs ((jgk rfl).trans e)
 obtain⟨m,em⟩:∃ m:Nat×Nat,m=(2+pk a 9,2+pk b 9):=⟨_,rfl⟩
 have m1:2<=m.1/\m.1<=10:=by rw[em];show 2<=2+pk a 9/\2+pk a 9<=10;omega
 have m2:2<=m.2/\m.2<=10:=by rw[em];show 2<=2+pk b 9/\2+pk b 9<=10;omega
 have em1:2+pk a 9=m.1:=by rw[em]
 have em2:2+pk b 9=m.2:=by rw[em]
 rw[em1,em2] at cm
 obtain⟨k,ek⟩:∃ k,pk f 9=k:=⟨_,rfl⟩
 rw[ek] at ck h3
 have hk:k<=100:=by omega
 obtain⟨Z,eZ⟩:∃ Z,shS m k l=Z:=⟨_,rfl⟩
 have zk:ZOk m k Z:=by
  rw[←eZ]
  exact(j58 m1 m2 hk (l.take 30) [] (by simp;omega) ⟨m1,m2,hk,by simp,fun z hz=>by simp at hz,by simp⟩).1
 have cs:∀ (Q:AV->Hp->Prop) (h:Hp),WC G3 6 [.agg [si m.1,si m.2],.s X,vi (k:Int)] h Q=Q (shU Z) h:=fun Q h=>by
  rw[←eZ]
  exact jbs (jd4 rfl (by show oif (grd X) _ _=_;rw[lX.grd];rfl) (j36 m1 m2 hk lin lX jp8))
 obtain⟨out,op,oans⟩:=j38 zk
 have co:∀ (Q:AV->Hp->Prop) (h:Hp),WC G3 7 [.agg [si m.1,si m.2],.s (jij jad (Z.map (·.1))),.s (jij jqo (Z.map (·.2))),vi (k:Int)] h Q=Q (j57 out) h:=fun Q h=>jbs (oans h)
 have zk1:ZOk m 0 [((⟨⟨1,0,0⟩,⟨1,0,1⟩⟩:Mo),0)]:=by
  refine⟨m1,m2,by omega,by simp,fun z hz=>?_,by simp⟩
  rw[f13] at hz
  subst hz
  have h10:=jy5 m1 m2 0
  exact⟨f2j 1,.inr ⟨rfl,f2j 1,by show 0<g2 m 0;omega⟩,.inr ⟨rfl,f2j 1,by show 1<g2 m 0;omega⟩,fun _=>rfl,fun _=>rfl⟩
 obtain⟨sw,sp,sans⟩:=j39 zk1
 unfold shU at cs
 unfold j57 at co sans
 obtain⟨L,eL⟩:∃ L,Z.map (·.1)=L:=⟨_,rfl⟩
 obtain⟨C,eC⟩:∃ C,Z.map (·.2)=C:=⟨_,rfl⟩
 have lL:L.length<=100:=by rw[←eL,f05];exact zk.len
 have hLn:(L.map (·.to)).Nodup:=by rw[←eL,List.map_map];exact zk.nd
 have hLe:∀ x∈L,jcc m x.fr k/\jcc m x.to k:=fun x hx=>by
  rw[←eL] at hx
  obtain⟨z,hz,rfl⟩:=f0o.1 hx
  exact⟨(zk.e z hz).2.1,(zk.e z hz).2.2.1⟩
 rw[eL,eC] at cs co
 rw[eL] at op
 have lout:=op.len
 have sL:∀ x∈L,Sml x:=fun x hx=>⟨((hLe x hx).1.vp m1 m2).sml m1 m2 hk,((hLe x hx).2.vp m1 m2).sml m1 m2 hk⟩
 have sO:∀ x∈out,Sml x/\¬(x.fr.k=2/\x.to.k=2):=fun x hx=>⟨⟨(op.ok x hx).1.sml m1 m2 hk,(op.ok x hx).2.1.sml m1 m2 hk⟩,(op.ok x hx).2.2⟩
 have sS:∀ x∈sw,Sml x:=fun x hx=>⟨(sp.ok x hx).1.sml m1 m2 (by omega),(sp.ok x hx).2.1.sml m1 m2 (by omega)⟩
 have slen:=sp.len
 simp only[f0u,f03] at slen
 obtain⟨b1,b0⟩:=j0n m1 m2 sp
 have lXL:LsE jad 6 (jij jad L) L:=LsE.enc jaj
 have lXO:LsE jad 6 (jij jad out) out:=LsE.enc jaj
 have lXS:LsE jad 6 (jij jad sw) sw:=LsE.enc jaj
 have lnL:=lXL.len
 have lnO:=lXO.len
 have lnS:=lXS.len
 obtain⟨XL,eXL⟩:∃ X,jij jad L=X:=⟨_,rfl⟩
 obtain⟨XO,eXO⟩:∃ X,jij jad out=X:=⟨_,rfl⟩
 obtain⟨XC,eXC⟩:∃ X,jij jqo C=X:=⟨_,rfl⟩
 obtain⟨XS,eXS⟩:∃ X,jij jad sw=X:=⟨_,rfl⟩
 rw[eXL] at cs co lXL lnL
 rw[eXO] at co lXO lnO
 rw[eXC] at cs co
 rw[eXS] at sans lXS lnS
 obtain⟨hA,eA,okA,nA,xA,gA⟩:=jsq ok [.int .i64 0,.int .i64 0] [si m.1,si m.2] 25
 obtain⟨hB,eB,okB,nB,xB,gB⟩:=j6m okA (.map false [])
 obtain⟨hC,eC',okC,nC,xC,gC⟩:=jsq okB [.nilMap] [.map (h.next+1)] 35
 obtain⟨hD,eD,okD,nD,xD,gD⟩:=j6m okC (.map false [])
 have nA2:=nA
 have nB2:hB.next=h.next+2:=by omega
 have nC2:hC.next=h.next+3:=by omega
 rw[nA2] at xB
 rw[nB2] at eC' xC
 rw[nC2] at xD
 simp(disch:=first|omega|rfl) only[go_sem,cm,ck,eA,xA,cs,co,jo5,nA2,eB,nB2,eC',nC2,eD,lnL]
 refine j59 (by omega) sL lXL (mw:=h.next+3) (n0:=h.next+4) (by omega) (by omega) L.length 0 (by omega) okD (by omega) xD (fun hE y24 y27 okE nE gE xwE=>?_)
 simp(disch:=first|omega|rfl) only[go_sem,lnO]
 have yC:=(gE (h.next+2) (by omega) (by omega)).trans ((gD _ (by omega)).trans xC)
 have yB:=(gE (h.next+1) (by omega) (by omega)).trans ((gD _ (by omega)).trans ((gC _ (by omega)).trans xB))
 have yA:=(gE h.next (by omega) (by omega)).trans ((gD _ (by omega)).trans ((gC _ (by omega)).trans ((gB _ (by omega)).trans xA)))
 refine j6a (by omega) sO lXO (bg:=h.next+2) (mg:=h.next+1) (n0:=h.next+4) (by omega) (by omega) (by omega) (by omega) (by omega) out.length 0 (by omega) okE (by omega) yC yB (fun hF y16 y17 y19 okF nF gF xmF=>?_)
 have zC:=(gF (h.next+2) (by omega) (by omega)).trans yC
 have zW:=(gF (h.next+3) (by omega) (by omega)).trans xwE
 have zA:=(gF h.next (by omega) (by omega)).trans yA
 simp(disch:=first|omega|rfl) only[go_sem]
 refine j6b (m:=m) (k:=k) hk zC xmF zW zA (fun c h1 h2=>jle m1 m2 hLn hLe op h1 h2) (100+k) 0 (by omega) (fun y8 y9 y10 y11 y12 y13=>?_)
 obtain⟨hG,eG,okG,nG,xG,gG⟩:=jqp okF [si 1,si 0,si 0,si 1,si 0,si 1] 39
 obtain⟨hH,eH,okH,nH,xH,gH⟩:=jqp okG [si 0] 3
 have yG:=(gH _ (by omega)).trans xG
 have cw:∀ Q,WC G3 7 [.agg [si m.1,si m.2],.s (.slice hF.next 0 1 1 true 6),.s (.slice hG.next 0 1 1 true 1),vi 0] hH Q=Q (.tup [(false,[XS]),(false,[si 0])]) hH:=fun Q=>jbs (sans hH hF.next hG.next yG xH)
 have d1:((sw.length:Int)<=4)=True:=eq_true (by omega)
 have e4:(4:Int)*(L.length:Int)=((4*L.length:Nat):Int):=by omega
 have d2:((out.length:Int)<=((4*L.length:Nat):Int))=True:=eq_true (by omega)
 simp(disch:=first|omega|rfl) only[go_sem,zA,eG,eH,cw]
 refine j37 (a:=0) (b:=1) (by omega) sS lXS okH (fun h'=>?_)
 rw[b1,b0]
 simp(disch:=first|omega|rfl) only[go_sem,jak,lnS,lnO,lnL,d1,e4,d2,Bool.and_true]
end Go.Proofs.Ytmcfkgjjnhlkiaa.Ev
