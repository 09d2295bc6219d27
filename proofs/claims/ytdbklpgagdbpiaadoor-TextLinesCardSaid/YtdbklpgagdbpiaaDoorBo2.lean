/- A builder of strings: what its methods do. -/
import Derived.Test.YtdbklpgagdbpiaaDoorLx
import Derived.Test.YtdbklpgagdbpiaaDoorFa
namespace Go.Proofs.YtdbklpgagdbpiaaDoor.Ev
noncomputable section
open Go Go.RowKit Go.Proofs.YtdbklpgagdbpiaaDoor.Ms
attribute [local go_sem] Int.reduceToNat reduceCtorEq Nat.reduceAdd Nat.reduceMul Nat.reduceEqDiff Int.reduceEq Int.reduceLT Int.reduceLE Int.reduceNeg Int.reduceAdd Int.reduceSub Int.reduceMul Int.reduceNe
attribute [local go_sem ↓] reduceIte
set_option linter.all false
set_option maxRecDepth 100000
set_option maxHeartbeats 2000000
variable {k:Nat} {xl:SV}
structure Bl (h:Hp) (p:Nat) (bs:List UInt8) (o:List Nat):Prop where
 ok:Ok h
 ex:∃ c x,h.get p=some (.arr [c,x] bT)/\(c=.nilPtr∨c=.ptr p 0)/\((bs=[]/\o=[]/\x=.nilSlice)∨(∃ m,o=[m]/\x=.slice m 0 bs.length bs.length false 1/\h.get m=some (.arr (u8s bs) 5)))
 p1:1<=p/\p<h.next
 pn:p∉o
 lt:∀ n∈o,1<=n/\n<h.next
section
variable {h h':Hp} {p:Nat} {bs:List UInt8} {o:List Nat}
theorem Bl.keep (w:Bl h p bs o) (ok':Ok h') (hk:∀ n,n<h.next->h'.get n=h.get n) (hn:h.next<=h'.next):Bl h' p bs o:=by
 obtain⟨c,x,h1,h2,h3⟩:=w.ex
 refine⟨ok',⟨c,x,(hk p w.p1.2).trans h1,h2,?_⟩,⟨w.p1.1,by have:=w.p1.2;omega⟩,w.pn,fun n hm=>by have:=w.lt n hm;omega⟩
 rcases h3 with h3 | ⟨m,rfl,h4,h5⟩
 .exact .inl h3
 .exact .inr ⟨m,rfl,h4,(hk m (w.lt m (by simp)).2).trans h5⟩
theorem qby (w:Bl h p bs o):∃ hA x,qol [.s (.ptr p 0)] h=some (.tup [],hA)/\hA.get p=some (.arr [.ptr p 0,x] bT)/\Bl hA p bs o/\Mv h hA (p::o) (p::o):=by
 obtain⟨c,x,h1,h2,h3⟩:=w.ex
 have ok0:=w.ok
 obtain⟨hp1,hp2⟩:=w.p1
 rcases h2 with rfl | rfl
 .obtain ⟨hA,eA,okA,nA,xA,gA⟩:=qr9 ok0 hp1 (some (.arr [.ptr p 0,x] bT))
  refine⟨hA,x,?_,xA,⟨okA,⟨_,x,xA,.inr rfl,?_⟩,⟨hp1,by omega⟩,w.pn,fun n hn=>by have:=w.lt n hn;omega⟩,⟨okA,by omega,fun n hn=>.inl hn,fun n hn hm=>gA n (fun e=>hm (by simp[e]))⟩⟩
  .unfold qol
   simp only[h1,qil]
   rw[show Nat.beq bT bT=true from f1l _]
   show ob (wr h p 0 [.ptr p 0]) (fun h'=>ok (.tup []) h')=_
   rw[qir ok0,h1,jmu]
   show ob (some (h.put p (some (.arr [.ptr p 0,x] bT)))) _=_
   rw[eA];rfl
  .rcases h3 with h3 | ⟨m,rfl,h4,h5⟩
   .exact .inl h3
   .exact .inr ⟨m,rfl,h4,(gA m (fun e=>w.pn (by simp[e]))).trans h5⟩
 .refine ⟨h,x,?_,h1,w,Mv.refl ok0⟩
  unfold qol
  simp only[h1,qil]
  rw[show Nat.beq bT bT=true from f1l _,show Nat.beq p p=true from f1l _]
  rfl
theorem qg5 (w:Bl h p bs o) {s:List UInt8} (hs:s≠[]) (hl:bs.length+s.length<=1000000000) {c x:SV} (hg:h.get p=some (.arr [c,x] bT)):∃ x' hM hN m,jlx h 5 1 1 s.length (.s x) (u8s s)=some (.s x',hM)/\Ok hM/\hM.get p=some (.arr [c,x] bT) /\
 hM.put p (some (.arr [c,x'] bT))=hN/\Ok hN/\(c=.nilPtr∨c=.ptr p 0->Bl hN p (bs++s) [m])/\Mv h hN (p::o) [p,m]:=by
 obtain⟨c',x2,h1,h2,h3⟩:=w.ex
 rw[hg] at h1
 cases h1
 have ok0:=w.ok
 obtain⟨hp1,hp2⟩:=w.p1
 have hs0:0<s.length:=f1w.2 hs
 obtain⟨k,hk⟩:∃ k,s.length=k+1:=⟨s.length - 1,by omega⟩
 rcases h3 with⟨rfl,rfl,rfl⟩ | ⟨m,rfl,rfl,h5⟩
 .obtain ⟨hM,eM,okM,nM,xM,gM⟩:=je0 ok0 (u8s s) 5
  obtain⟨hN,eN,okN,nN,xN,gN⟩:=qr9 okM hp1 (some (.arr [c,.slice h.next 0 s.length s.length false 1] bT))
  refine⟨.slice h.next 0 s.length s.length false 1,hM,hN,h.next,?_,okM,(gM p hp2).trans hg,eN,okN,fun hc=>⟨okN,⟨c,_,xN,hc,.inr ⟨h.next,rfl,by simp,(gN _ (by omega)).trans (by simpa using xM)⟩⟩,⟨hp1,by omega⟩,by simp;omega,fun n hn=>by simp at hn;subst hn;have:=ok0.pos;omega⟩,⟨okN,by omega,fun n hn=>?_,fun n hn hm=>?_⟩⟩
  .rw [hk]
   show jj9 1 (k+1) (nw h (u8s s) 5 (fun q h=>ok (.s (.slice q 0 (k+1) (k+1) false 1)) h))=_
   rw[jn9 (by omega) (by omega),jxt ok0,eM];rfl
  .rcases f0j.1 hn with rfl | hn
   .exact .inl (by simp)
   .simp at hn;subst hn;exact .inr (f0d _)
  .rw [gN n (fun e=>hm (by simp[e]))];exact gM n hn
 .obtain ⟨hm1,hm2⟩:=w.lt m (by simp)
  have hpm:p≠m:=fun e=>w.pn (by simp[e])
  obtain⟨hK,eK,okK,nK,xK,gK⟩:=qr9 ok0 hm1 none
  obtain⟨hM,eM,okM,nM,xM,gM⟩:=je0 okK (u8s (bs++s)) 5
  obtain⟨hN,eN,okN,nN,xN,gN⟩:=qr9 okM hp1 (some (.arr [c,.slice h.next 0 (bs.length+s.length) (bs.length+s.length) false 1] bT))
  rw[nK] at xM gM nM
  have gp:hM.get p=some (.arr [c,.slice m 0 bs.length bs.length false 1] bT):=(gM p hp2).trans ((gK p hpm).trans hg)
  have e8:u8s (bs++s)=u8s bs++u8s s:=by rw[jsl,jsl,jsl,List.map_append]
  have l8:(u8s bs).length=bs.length:=by rw[jsl,f1d]
  refine⟨.slice h.next 0 (bs.length+s.length) (bs.length+s.length) false 1,hM,hN,h.next,?_,okM,gp,eN,okN,fun hc=>⟨okN,⟨c,_,xN,hc,.inr ⟨h.next,rfl,by rw[f0k],(gN _ (by omega)).trans xM⟩⟩,⟨hp1,by omega⟩,by simp;omega,fun n hn=>by simp at hn;subst hn;have:=ok0.pos;omega⟩,⟨okN,by omega,fun n hn=>?_,fun n hn hm=>?_⟩⟩
  .have e1:Nat.ble (Nat.add bs.length s.length) bs.length=false:=by
    cases e:Nat.ble (Nat.add bs.length s.length) bs.length with
    | false=>rfl
    | true=>have:bs.length+s.length<=bs.length:=f0g e;omega
   show oif (Nat.beq 1 1) (oif (Nat.ble (Nat.add bs.length s.length) bs.length) _ (jj9 1 (Nat.add bs.length s.length) (jlw h 5 1 m 0 bs.length s.length false (u8s s)))) none=_
   rw[e1]
   show jj9 1 (bs.length+s.length) (jlw h 5 1 m 0 bs.length s.length false (u8s s))=_
   rw[jn9 (by omega) (by omega)]
   show ob (h.get m) _=_
   rw[h5]
   show ob (jbp (Nat.mul bs.length 1) (u8s bs)) (fun old=>oif (Nat.ble h.lo m) (oif (Nat.beq 5 5) (nw (h.put m none) (jgp old (u8s s)) 5 (fun k h=>ok (.s (.slice k 0 (Nat.add bs.length s.length) (Nat.add bs.length s.length) false 1)) h)) none) none)=_
   rw[show jbp (Nat.mul bs.length 1) (u8s bs)=some (u8s bs) from (ja5 _).2 ⟨by rw[l8];exact f2l (f2h _),by rw[show Nat.mul bs.length 1=bs.length from f2h _,←l8,f2e]⟩]
   show oif (Nat.ble h.lo m) _ none=_
   rw[ok0.lo,show Nat.ble 0 m=true from jde (f14 _)]
   show nw (h.put m none) (jgp (u8s bs) (u8s s)) 5 (fun k h=>ok (.s (.slice k 0 (Nat.add bs.length s.length) (Nat.add bs.length s.length) false 1)) h)=_
   rw[eK,jxt okK,jc8,←e8,eM,nK];rfl
  .rcases f0j.1 hn with rfl | hn
   .exact .inl (by simp)
   .simp at hn;subst hn;exact .inr (f0d _)
  .rw [gN n (fun e=>hm (by simp[e])),gM n hn]
   exact gK n (fun e=>hm (by simp[e]))
end
def Bf (f:FuncId):Bool:=Nat.beq f 10||(Nat.beq f 13||(Nat.beq f 11||(Nat.beq f 23||(Nat.beq f 14||Nat.beq f 5))))
structure BlF (F:Fns):Prop where
 x:∀ f,Bf f=true->∀ vs h,jdx F f vs h=none
 t:qcx F=T
 l:∀ f vs h r,jz4 f vs h=some r->jdx F f vs h=some r
section
variable {F:Fns} {h:Hp} {p:Nat} {bs:List UInt8} {o:List Nat}
def Bln (h:Hp) (p:Nat) (bs:List UInt8) (o:List Nat) (l:List UInt8):AV->Hp->Prop:=fun _ h'=>∃ m,Bl h' p (bs++l) [m]/\Mv h h' (p::o) [p,m]
theorem jey (f:BlF F) (w:Bl h p bs o) {s:List UInt8} (hs:s≠[]) (hl:bs.length+s.length<=1000000000):WC F 10 [.s (.ptr p 0),.s (.str s)] h (Bln h p bs o s):=by
 refine ja9 (f.x _ rfl _ _) ((congrFun f.t _).trans qvn) rfl ?_
 unfold qg2
 obtain⟨hA,x,e1,xA,wA,mA⟩:=qby w
 have okA:=wA.ok
 have hc:=fun(Q:AV->Hp->Prop)=>jaq (F:=F) (Q:=Q) (f.l 21 _ _ _ (show jz4 21 [.s (.ptr p 0)] h=_ from e1))
 obtain⟨x',hM,hN,m,t1,okM,xM,eN,okN,wN,mN⟩:=qg5 wA hs hl xA
 have hln:=j1w (l:=s) (by omega)
 have hll:jb2 s=s.length:=ja7 s
 simp(disch:=first|omega|rfl) only[go_sem,jcf,jcg,jch,jaw,jan,jci,jax,hc,xA,hll,t1,xM,eN,hln]
 exact⟨m,wN (.inr rfl),mA.trans mN⟩
end
def ito (n:Nat):List UInt8:=dig 19 n []
theorem qbz:∀ (f n:Nat) (acc:List UInt8),(dig f n acc).length<=f+acc.length
 | 0,n,acc=>by show acc.length<=_;omega
 | f+1,n,acc=>by
  show(oif (Nat.ble n 9) (UInt8.ofNat (48+n)::acc) (dig f (n / 10) (UInt8.ofNat (48+n % 10)::acc))).length<=_
  rw[jap]
  split
  .simp;omega
  .have:=qbz f (n / 10) (UInt8.ofNat (48+n % 10)::acc)
   rw[f00] at this;omega
theorem jc3 (n:Nat):(ito n).length<=19:=qbz 19 n []
def jlq (l:List Nat):List UInt8:=(l.map (fun n=>(32:UInt8)::ito n)).flatten
theorem jy6 (n:Nat) (l:List Nat):jlq (n::l)=32::ito n++jlq l:=rfl
theorem jeb:∀ l:List Nat,(jlq l).length<=20*l.length
 | []=>f0d _
 | n::l=>by have:=jeb l;have:=jc3 n;rw[jy6];simp;omega
def RdN (h:Hp) (xl:SV) (l:List Nat) (own:List Nat):Prop:=xl=jae jaz l∨∃ b o mc ex cells ty,xl=.slice b o l.length mc ex 1/\h.get b=some (.arr cells ty)/\b<h.next/\b∉own/\∀ (i n:Nat),l[i]?=some n->cells[o+i]?=some (si n)
theorem RdN.len {h:Hp} {l own:List Nat} (r:RdN h xl l own):j0b (.s xl)=some (vi l.length):=by
 rcases r with rfl | ⟨b,o,mc,ex,cells,ty,rfl,_⟩
 .exact jag
 .rfl
theorem RdN.mv {h h':Hp} {l own own':List Nat} (r:RdN h xl l own) (m:Mv h h' own own'):RdN h' xl l own':=by
 rcases r with rfl | ⟨b,o,mc,ex,cells,ty,rfl,h1,h2,h3,h4⟩
 .exact .inl rfl
 .exact .inr ⟨b,o,mc,ex,cells,ty,rfl,(m.keep b h2 h3).trans h1,f0m h2 m.nx,fun hc=>by
   rcases m.new b hc with h5 | h5
   .exact h3 h5
   .omega,h4⟩
section
variable {F:Fns} {h:Hp} {p:Nat} {bs:List UInt8} {o:List Nat}
theorem je9 (f:BlF F) {n:Nat} (hn:n<=9223372036854775807) {Q:AV->Hp->Prop}:WC F 12 [vi (n:Int)] h Q=Q (.s (.str (ito n))) h:=by
 refine jaq (f.l 12 _ _ _ ?_)
 show qso [.s (.int .i64 (Int.ofNat n))] h=_
 show oif (Nat.ble n 9223372036854775807) (some (AV.s (.str (dig 19 n [])),h)) none=_
 rw[jde hn];rfl
def qwd (h:Hp) (p:Nat) (bs:List UInt8) (o:List Nat) (l:List UInt8):AV->Hp->Prop:=fun _ h'=>∃ o',Bl h' p (bs++l) o'/\Mv h h' (p::o) (p::o')
theorem jwm (f:BlF F) (w:Bl h p bs o) (hl:bs.length+1<=1000000000):WC F 13 [.s (.ptr p 0),.s (.int .u8 10)] h (Bln h p bs o [10]):=by
 refine ja9 (f.x _ rfl _ _) ((congrFun f.t _).trans qvo) rfl ?_
 unfold qg3
 obtain⟨hA,x,e1,xA,wA,mA⟩:=qby w
 have okA:=wA.ok
 have hc:=fun(Q:AV->Hp->Prop)=>jaq (F:=F) (Q:=Q) (f.l 21 _ _ _ (show jz4 21 [.s (.ptr p 0)] h=_ from e1))
 obtain⟨hB,eB,okB,nB,xB,gB⟩:=je0 okA [.int .u8 10] 5
 have wB:=wA.keep okB gB (by omega)
 have zB:=(gB p wA.p1.2).trans xA
 obtain⟨x',hM,hN,m,t1,okM,xM,eN,okN,wN,mN⟩:=qg5 (s:=[10]) wB (by simp) (by simpa using hl) zB
 have t2:juf hB 5 1 1 (.s x) (.s (.slice hA.next 0 1 1 true 1))=some (.s x',hM):=by
  show ob (rd hB hA.next 0 (Nat.mul 1 1)) (fun new=>jlx hB 5 1 1 1 (.s x) new)=_
  rw[qpr,xB]
  exact t1
 simp(disch:=first|omega|rfl) only[go_sem,jcf,jcg,jch,jaw,jan,jci,jax,hc,xA,eB,t2,xM,eN]
 exact⟨m,wN (.inr rfl),mA.trans (Mv.trans ⟨okB,by omega,fun n hn=>.inl hn,fun n hn _=>gB n hn⟩ mN)⟩
theorem qg6 (f:BlF F) {l:List Nat} (hb:∀ n∈l,n<=9223372036854775807) (hl:l.length<=10000000) {x1:AV} {Q:Ex->St->Prop} :
 ∀ (d i:Nat) (_:i+d=l.length) {hi:Hp} {bs:List UInt8} {o:List Nat} (_:Bl hi p bs o) (_:RdN hi xl l (p::o)) (_:bs.length+20*d<=1000000000) {x2 x4:AV}
  (hQ:∀ hj o' x2 x4,Bl hj p (bs++jlq (l.drop i)) o'->Mv hi hj (p::o) (p::o')->Q (.exit 0) (.mk [.s (.ptr p 0),x1,x2,.s xl,x4,vi l.length,vi l.length] hj)),
  W F jrq.loop (.mk [.s (.ptr p 0),x1,x2,.s xl,x4,vi l.length,vi i] hi) Q
 | 0,i,hd,hi,bs,o,w,r,hw,x2,x4,hQ=>by
  obtain rfl:i=l.length:=by omega
  rw[jaj]
  unfold jrq
  have ok:=w.ok
  simp(disch:=first|omega|rfl) only[go_sem,f0s]
  exact hQ hi o _ _ (by rw[f2r];simpa[jlq] using w) (Mv.refl ok)
 | d+1,i,hd,hi,bs,o,w,r,hw,x2,x4,hQ=>by
  have hil:i<l.length:=by omega
  have hlt:(i:Int)<(l.length:Int):=by omega
  have hss:(i:Int)+1=((i+1:Nat):Int):=by omega
  obtain⟨n,hn⟩:∃ n,l[i]?=some n:=⟨_,f0b hil⟩
  have hdr:l.drop i=n::l.drop (i+1):=by rw[f08 hil,(f0x.1 hn).2]
  have ok:=w.ok
  have hni:=jc3 n
  have hit:=fun(h:Hp) (Q:AV->Hp->Prop)=>je9 (h:=h) (Q:=Q) f (hb n (f0c hn))
  have hct:=jea (l:=[32]) (r:=ito n) (by simp;omega)
  have hlen:([32]++ito n).length<=20:=by simp;omega
  have step:∀ {x2':AV},WC F 10 [.s (.ptr p 0),.s (.str ([32]++ito n))] hi (fun v hj=>∀ x2 x4,W F jrq.loop (.mk [.s (.ptr p 0),x1,x2,.s xl,x4,vi l.length,vi ((i+1:Nat):Int)] hj) Q):=by
   intro x2'
   refine WC.imp (jey f w (by simp) (by omega)) ?_
   rintro v hj ⟨m,w1,m1⟩ x2 x4
   exact qg6 f hb hl d (i+1) (by omega) w1 (r.mv m1) (by rw[f0k];omega) (fun hk o' x2 x4 w' m'=>hQ hk o' x2 x4 (by rw[hdr,jy6];simpa[f0l] using w') (m1.trans m'))
  rw[jaj]
  unfold jrq
  rcases r with hxl | ⟨b,q,mc,ex,cells,ty,hxl,r1,r2,r3,r4⟩
  .have hix:jza 1 (.s xl) (vi (i:Int))=some (.s (.cp (jaz n))):=by rw[hxl];exact jah (enc:=jaz) (size:=1) hn rfl
   simp(disch:=first|omega|rfl) only[go_sem,jcf,jcg,jch,jaw,jan,jci,jax,jad,eq_true hlt,hix,jaz,hit,hct]
   refine WC.imp (step (x2':=x2)) ?_
   intro v hj hh
   simp(disch:=first|omega|rfl) only[go_sem,jad,hss]
   exact hh _ _
  .have hix:jza 1 (.s xl) (vi (i:Int))=some (.s (.ptr b (q+i*1))):=by rw[hxl];exact jbg hil
   have hrd:rdB (hi.get b) (q+i*1) 1=some [si n]:=by rw[r1];exact j9s (by rw[f2h];exact r4 i n hn)
   simp(disch:=first|omega|rfl) only[go_sem,jcf,jcg,jch,jaw,jan,jci,jax,jad,eq_true hlt,hix,hrd,hit,hct]
   refine WC.imp (step (x2':=x2)) ?_
   intro v hj hh
   simp(disch:=first|omega|rfl) only[go_sem,jad,hss]
   exact hh _ _
theorem jrr (f:BlF F) (w:Bl h p bs o) {l:List Nat} (hb:∀ n∈l,n<=9223372036854775807) (hl:l.length<=10000000) (r:RdN h xl l (p::o)) (hw:bs.length+20*l.length<=1000000000):WC F 11 [.s (.ptr p 0),.s xl] h (qwd h p bs o (jlq l)):=by
 refine ja9 (f.x _ rfl _ _) ((congrFun f.t _).trans qvm) rfl ?_
 unfold qg1
 have ok:=w.ok
 have ll:=r.len
 simp(disch:=first|omega|rfl) only[go_sem,ll]
 refine qg6 f hb hl l.length 0 (by omega) w r (by omega) (fun hj o' x2 x4 w' m'=>?_)
 simp(disch:=first|omega|rfl) only[go_sem]
 exact⟨o',by rw[f11] at w';exact w',m'⟩
end
def kw:Nat->List UInt8
 | 1=>[117,115,101]
 | 2=>[100,101,102]
 | _=>[]
def lw:Nat->List UInt8
 | 1=>[97,110,121]
 | 2=>[114,101,103]
 | 3=>[115,116,97,99,107]
 | 4=>[102,105,120,101,100]
 | 5=>[114,101,117,115,101]
 | _=>[]
theorem qg7 (k:Nat):(kw k).length<=3:=by unfold kw;split<;>simp
theorem qg8 (k:Nat):(lw k).length<=5:=by unfold lw;split<;>simp
theorem qvq (hk:k<=2):jbp 1 (jb4 (k*1) [SV.str [],.str [117,115,101],.str [100,101,102]])=some [.str (kw k)]:=by
 match k,hk with
 | 0,_=>rfl
 | 1,_=>rfl
 | 2,_=>rfl
theorem qvr (hk:k<=5):jbp 1 (jb4 (k*1) [SV.str [],.str [97,110,121],.str [114,101,103],.str [115,116,97,99,107],.str [102,105,120,101,100],.str [114,101,117,115,101]])=some [.str (lw k)]:=by
 match k,hk with
 | 0,_=>rfl
 | 1,_=>rfl
 | 2,_=>rfl
 | 3,_=>rfl
 | 4,_=>rfl
 | 5,_=>rfl
def j57 (o:Ms.Opd):List UInt8:=((([32]++ito o.value)++[32])++lw o.limit)++(if 4<=o.limit then [32]++ito o.n else [])
def qb0 (o:Ms.Opd):List UInt8:=([32]++kw o.kind)++((if o.late=true then [32,108,97,116,101] else [])++j57 o)
theorem jwn (o:Ms.Opd):(qb0 o).length<=60:=by
 have h1:=qg7 o.kind
 have h2:=qg8 o.limit
 have h3:=jc3 o.value
 have h4:=jc3 o.n
 unfold qb0 j57
 simp only[f0k,f00,f1b]
 split<;>split<;>simp<;>omega
structure TkO (o:Ms.Opd):Prop where
 k:o.kind<=2
 l:o.limit<=5
 v:o.value<=9223372036854775807
 n:o.n<=9223372036854775807
section
variable {F:Fns} {h:Hp} {p:Nat} {bs:List UInt8} {o:List Nat}
theorem qn0 (f:BlF F) (w:Bl h p bs o) {x:Ms.Opd} (k:TkO x) (hw:bs.length<=900000000):WC F 23 [.s (.ptr p 0),.agg (jbi x)] h (qwd h p bs o (qb0 x)):=by
 refine ja9 (f.x _ rfl _ _) ((congrFun f.t _).trans qr6) rfl ?_
 unfold qbt jbi
 have ok:=w.ok
 have hki:=qvq k.k
 have hli:=qvr k.l
 have l1:=qg7 x.kind
 have l2:=qg8 x.limit
 have l3:=jc3 x.value
 have l4:=jc3 x.n
 obtain⟨hA,eA,okA,nA,xA,gA⟩:=je0 ok [si x.kind,si x.value,.bool x.late,si x.limit,si x.n] 73
 have wA:=w.keep okA gA (by omega)
 have mA:Mv h hA (p::o) (p::o):=⟨okA,by omega,fun n hn=>.inl hn,fun n hn _=>gA n hn⟩
 have c1:=jea (l:=[32]) (r:=kw x.kind) (by simp;omega)
 have c2:=jea (l:=[32]) (r:=ito x.value) (by simp;omega)
 have c3:=jea (l:=32::ito x.value) (r:=[32]) (by simp;omega)
 have c4:=jea (l:=32::(ito x.value++[32])) (r:=lw x.limit) (by simp;omega)
 have c5:=jea (l:=[32]) (r:=ito x.n) (by simp;omega)
 have i1:=fun(h:Hp) (Q:AV->Hp->Prop)=>je9 (h:=h) (Q:=Q) f k.v
 have i2:=fun(h:Hp) (Q:AV->Hp->Prop)=>je9 (h:=h) (Q:=Q) f k.n
 have hk3:x.kind<3:=by have:=k.k;omega
 have hl6:x.limit<6:=by have:=k.l;omega
 have fA:h.next∉p::o:=fun hc=>by
  rcases f0j.1 hc with h1 | h1
  .have:=w.p1.2;omega
  .have:=w.lt _ h1;omega
 have out:∀ {hi hj:Hp} {o1 o2:List Nat},h.next<hi.next/\h.next∉p::o1->Mv hi hj (p::o1) (p::o2)->h.next<hj.next/\h.next∉p::o2:=fun h0 m=>⟨f0m h0.1 m.nx,fun hc=>by
  rcases m.new _ hc with h1 | h1
  .exact h0.2 h1
  .have:=h0.1;omega⟩
 simp(disch:=first|omega|rfl) only[go_sem,jcf,jcg,jch,jaw,jan,jci,jax,eA,xA,hki,c1]
 refine WC.imp (jey f wA (s:=[32]++kw x.kind) (by simp) (by simp;omega)) ?_
 rintro v hB ⟨m1,w1,e1⟩
 have b1:=out ⟨by omega,fA⟩ e1
 have xB:=(e1.keep h.next (by omega) fA).trans xA
 have okB:=w1.ok
 have last:∀ {hC:Hp} {m2:Nat} {bs':List UInt8} {x2 x3:AV} {Q:AV->Hp->Prop},Bl hC p bs' [m2]->h.next<hC.next/\h.next∉[p,m2]->hC.get h.next=some (.arr [si x.kind,si x.value,.bool x.late,si x.limit,si x.n] 73)->bs'.length<=900000010 ->
  (∀ v hD m3,Bl hD p (bs'++j57 x) [m3]->Mv hC hD [p,m2] [p,m3]->Q v hD) ->
  W F jwj (.mk [.s (.ptr p 0),.agg [si x.kind,si x.value,.bool x.late,si x.limit,si x.n],x2,x3,.s (.ptr h.next 0)] hC) (qc5 [] Q):=by
  intro hC m2 bs' x2 x3 Q w2 b2 xC hb hQ
  have okC:=w2.ok
  unfold jwj j4i
  have hh:(hC.next<=h.next/\h.next<hC.next)=False:=eq_false (by omega)
  simp(disch:=first|omega|rfl) only[go_sem,jcf,jcg,jch,jaw,jan,jci,jax,xC,i1,c2,c3,c4,hli,hh]
  refine WC.imp (jey f w2 (s:=(([32]++ito x.value)++[32])++lw x.limit) (by simp) (by simp;omega)) ?_
  rintro v hD ⟨m3,w3,e3⟩
  have okD:=w3.ok
  have xD:=(e3.keep h.next b2.1 b2.2).trans xC
  by_cases h4:4<=x.limit
  .have q4:(4:Int)<=(x.limit:Int):=by omega
   simp(disch:=first|omega|rfl) only[go_sem,jcf,jcg,jch,jaw,jan,jci,jax,xD,i2,c5,eq_true q4]
   refine WC.imp (jey f w3 (s:=[32]++ito x.n) (by simp) (by simp;omega)) ?_
   rintro v hE ⟨m4,w4,e4⟩
   have okE:=w4.ok
   simp(disch:=first|omega|rfl) only[go_sem]
   refine hQ _ _ m4 ?_ (e3.trans e4)
   unfold j57
   rw[if_pos h4,←f0l];exact w4
  .have q4:((4:Int)<=(x.limit:Int))=False:=eq_false (by omega)
   simp(disch:=first|omega|rfl) only[go_sem,jcf,jcg,jch,jaw,jan,jci,jax,xD,q4]
   refine hQ _ _ m3 ?_ e3
   unfold j57
   rw[if_neg h4,f1c];exact w3
 cases el:x.late with
 | false =>
  rw[el] at xB last
  simp(disch:=first|omega|rfl) only[go_sem,jcf,jcg,jch,jaw,jan,jci,jax,xB]
  refine last w1 b1 xB (by simp;omega) (fun v hD m3 w3 e3=>⟨[m3],?_,mA.trans (e1.trans e3)⟩)
  unfold qb0
  rw[el,←f0l];exact w3
 | true =>
  rw[el] at xB last
  simp(disch:=first|omega|rfl) only[go_sem,jcf,jcg,jch,jaw,jan,jci,jax,xB]
  refine WC.imp (jey f w1 (s:=[32,108,97,116,101]) (by simp) (by simp;omega)) ?_
  rintro v hC ⟨m2,w2,e2⟩
  have okC:=w2.ok
  have b2:=out b1 e2
  have xC:=(e2.keep h.next b1.1 b1.2).trans xB
  simp(disch:=first|omega|rfl) only[go_sem,jcf,jcg,jch,jaw,jan,jci,jax]
  refine last w2 b2 xC (by simp;omega) (fun v hD m3 w3 e3=>⟨[m3],?_,mA.trans (e1.trans (e2.trans e3))⟩)
  unfold qb0
  rw[el,←f0l,←f0l];exact w3
end
end
end Go.Proofs.YtdbklpgagdbpiaaDoor.Ev
