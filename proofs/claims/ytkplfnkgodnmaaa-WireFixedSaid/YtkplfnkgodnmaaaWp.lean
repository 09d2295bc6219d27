/- A script is checked, whatever it is: Check answers some number. -/
import Derived.Test.YtkplfnkgodnmaaaFj
import Derived.Test.YtkplfnkgodnmaaaHc
import Derived.Test.YtkplfnkgodnmaaaFd
namespace Go.Proofs.Ytkplfnkgodnmaaa.Ev
open Go Go.RowKit Go.Proofs.Ytkplfnkgodnmaaa.Ms
attribute [local go_sem] Int.reduceToNat reduceCtorEq Nat.reduceAdd Nat.reduceMul Nat.reduceEqDiff Int.reduceEq Int.reduceLT Int.reduceLE Int.reduceNeg Int.reduceAdd Int.reduceSub Int.reduceMul Int.reduceNe
attribute [local go_sem ↓] reduceIte
set_option linter.all false
set_option maxRecDepth 100000
set_option maxHeartbeats 4000000
variable {h:Hp} {l:List Nat} {xj:SV}
theorem qbc {F:Fns} (lj:LstE jak 1 xj l) (hl:l.length<=64) {x0 x1 x8 x9 x10 x11 x12:AV} {Q:Ex->St->Prop} :
 ∀ (d i:Nat) (_:i+d=l.length) {hi:Hp} (_:Ok hi) {x2 x3 x5:AV}
  (hQ:∀ x2 x3 x5,Q (.exit 0) (.mk [x0,x1,x2,x3,.s xj,x5,vi l.length,vi l.length,x8,x9,x10,x11,x12] hi))
  (hR:∀ fr,jbp fr 1=some (vi 2)->Q .ret (.mk fr hi)),
  W F jpm.loop (.mk [x0,x1,x2,x3,.s xj,x5,vi l.length,vi i,x8,x9,x10,x11,x12] hi) Q
 | 0,i,hd,hi,ok,x2,x3,x5,hQ,hR=>by
  obtain rfl:i=l.length:=by omega
  rw[jae]
  unfold jpm
  simp(disch:=first|omega|rfl) only[go_sem,f0q]
  exact hQ _ _ _
 | d+1,i,hd,hi,ok,x2,x3,x5,hQ,hR=>by
  have hil:i<l.length:=by omega
  have hlt:(i:Int)<(l.length:Int):=by omega
  have hss:(i:Int)+1=((i+1:Nat):Int):=by omega
  obtain⟨n,hn⟩:∃ n,l[i]?=some n:=⟨_,f0b hil⟩
  have hix:=lj.at_ hn
  have c1:((n:Int)<0)=False:=eq_false (by omega)
  rw[jae]
  unfold jpm j4d
  by_cases c:1073741824<(n:Int)
  .simp (disch:=first|omega|rfl) only[go_sem,jac,eq_true hlt,hix,jak,c1,eq_true c]
   exact hR _ rfl
  .simp (disch:=first|omega|rfl) only[go_sem,jac,eq_true hlt,hix,jak,c1,eq_false c,hss]
   exact qbc lj hl d (i+1) (by omega) ok hQ hR
theorem qev {F:Fns} (hX:∀ vs h,jeb F 24 vs h=none) (hT:jy6 F=T) (ok:Ok h) {s:Scr} (lq:LstE jak 1 xj s.junk) {e:Int} (hK:∀ h Q,WC F 12 [.agg [jag jak s.f.values,jag jax s.f.blocks],.agg [si s.m1,si s.m2]] h Q=Q (vi e) h) :
 WC F 24 [.agg (jrs s xj)] h (fun v h'=>∃ e':Int,v=vi e'/\(e'=0->e=0)):=by
 refine jan (hX _ _) ((congrFun hT _).trans qlw) rfl ?_
 unfold qau jrs
 obtain⟨hA,eA,okA,nA,xA,gA⟩:=jra ok [si s.m1,si s.m2,jag jak s.f.values,jag jax s.f.blocks,si s.seed,si s.steps,xj] 31
 have lj:=lq.len
 have c1:((s.seed:Int)<0)=False:=eq_false (by omega)
 have c3:((s.steps:Int)<0)=False:=eq_false (by omega)
 by_cases e0:e=0
 .have e1:(e≠0)=False:=eq_false (fun h=>h e0)
  simp(disch:=first|omega|rfl) only[go_sem,eA,xA,hK,e1]
  unfold j4g
  by_cases c2:1073741824<(s.seed:Int)
  .simp (disch:=first|omega|rfl) only[go_sem,xA,c1,eq_true c2]
   exact⟨2,rfl,fun _=>e0⟩
  by_cases c4:5000<(s.steps:Int)
  .simp (disch:=first|omega|rfl) only[go_sem,xA,c1,eq_false c2,c3,eq_true c4]
   exact⟨2,rfl,fun _=>e0⟩
  simp(disch:=first|omega|rfl) only[go_sem,xA,c1,eq_false c2,c3,eq_false c4]
  unfold j4f
  by_cases c5:64<(s.junk.length:Int)
  .simp (disch:=first|omega|rfl) only[go_sem,xA,lj,eq_true c5]
   exact⟨1,rfl,fun _=>e0⟩
  simp(disch:=first|omega|rfl) only[go_sem,xA,lj,eq_false c5]
  unfold j4e
  simp(disch:=first|omega|rfl) only[go_sem,xA,lj]
  refine qbc lq (by omega) s.junk.length 0 (by omega) okA (fun x2 x3 x5=>?_) (fun fr h=>?_)
  .simp (disch:=first|omega|rfl) only[go_sem]
   exact⟨0,rfl,fun _=>e0⟩
  .simp (disch:=first|omega|rfl) only[go_sem,h]
   exact⟨2,rfl,fun _=>e0⟩
 .have e1:(e≠0)=True:=eq_true e0
  simp(disch:=first|omega|rfl) only[go_sem,eA,xA,hK,e1]
  exact⟨e,rfl,fun h=>absurd h e0⟩
def j43 (e:Int):AV:=.tup [(true,[.int .i64 0,.int .i64 0,.nilSlice,.nilSlice,.int .i64 0,.int .i64 0,.nilSlice]),(false,[si e])]
def qi5 (s:Scr) (rest:List Nat) (fl:Bool) (en:Int):AV:=match fl,rest with
 | true,_=>j43 5
 | false,_::_=>j43 4
 | false,[]=>if en=0 then .tup [(true,jik s),(false,[si 0])] else j43 en
theorem j4r {F:Fns} (f:RdF0 F) (ok:Ok h) (hl:l.length<=20000) (hb:∀ n∈l,n<256) {kk:Bool} {s:Scr} {rest:List Nat} {fl:Bool} {en:Int} (e:qjl (l,false)=(s,(rest,fl)))
 (hC:fl=false->∀ h vs Q,jh3 true h 4 [.agg vs]=some [.agg (jik s)]->WC (FW F) 24 [.agg vs] h Q=Q (vi en) h) :
 WC (FW F) 7 [.s (.lst (l.map jfa))] h (fun v h'=>∃ d,jml kk h' d v=some (qi5 s rest fl en)):=by
 have fu:=f.up
 obtain⟨v1,r1,e1⟩:∃ v r,smF (l,false)=(v,r):=⟨_,_,rfl⟩
 obtain⟨v2,r2,e2⟩:∃ v r,smF r1=(v,r):=⟨_,_,rfl⟩
 obtain⟨v3,r3,e3⟩:∃ v r,jd7 r2=(v,r):=⟨_,_,rfl⟩
 obtain⟨v4,r4,e4⟩:∃ v r,jd7 r3=(v,r):=⟨_,_,rfl⟩
 obtain⟨js,r5,e5⟩:∃ v r,eachR jd7 r4=(v,r):=⟨_,_,rfl⟩
 obtain⟨vl,r6,e6⟩:∃ v r,jep r5=(v,r):=⟨_,_,rfl⟩
 obtain⟨bs,r7,e7⟩:∃ v r,eachR j41 r6=(v,r):=⟨_,_,rfl⟩
 have ee:((⟨v1,v2,v3,v4,js,⟨vl,bs⟩⟩:Scr),r7)=(s,(rest,fl)):=by
  rw[←e]
  simp only[qjl,jmw,j40,e1,e2,e3,e4,e5,e6,e7]
 obtain⟨rfl,rfl⟩:=Prod.mk.inj ee
 refine jan (fu.x _ rfl _ _) ((congrFun fu.t _).trans qa5) rfl ?_
 unfold jtr
 have hpos:=ok.pos
 obtain⟨hA,eA,okA,nA,xA,gA⟩:=jra ok [.int .i64 0,.int .i64 0,.nilSlice,.nilSlice,.int .i64 0,.int .i64 0,.nilSlice] 31
 have ll:jlz (.s (.lst (l.map jfa)))=some (vi l.length):=by
  show some (vi ((ja9 (l.map jfa):Nat):Int))=_
  rw[jas,f05]
 have c1:(20000<(l.length:Int))=False:=eq_false (by omega)
 simp(disch:=first|omega|rfl) only[go_sem,eA,ll,c1]
 unfold jv6
 simp(disch:=first|omega|rfl) only[go_sem]
 refine WC.imp (qet fu okA (by omega)) ?_
 rintro _ hB ⟨x,rfl,okB,nB,gB,lx,hx⟩
 obtain⟨hC1,eC,okC,nC,xC,gC⟩:=jra okB [x,.bool false] 58
 obtain⟨hD,eD,okD,nD,xD,gD⟩:=jhi okC [.nilPtr] [.ptr hB.next 0] 55
 obtain⟨hE,eE,okE,nE,xE,gE⟩:=jra okD [.int .i64 0,.int .i64 0,.nilSlice,.nilSlice,.int .i64 0,.int .i64 0,.nilSlice] 31
 have xCE:=(gE _ (by omega)).trans ((gD _ (by omega)).trans xC)
 have xDE:=(gE _ (by omega)).trans xD
 have zE:hE.get h.next=some (.arr [.int .i64 0,.int .i64 0,.nilSlice,.nilSlice,.int .i64 0,.int .i64 0,.nilSlice] 31):=by rw[gE _ (by omega),gD _ (by omega),gC _ (by omega),gB _ (by omega)];exact xA
 obtain⟨bb,hbb1,kE⟩:∃ bb,bb<hB.next/\RdS hE hB.next bb (l,false):=by
  rcases hx with rfl | ⟨bb,mc,ex,cells,ty,rfl,i1,i2,i3,i4,i5⟩
  .exact ⟨h.next,by omega,okE,⟨x,xCE,lx,.inl rfl⟩,by omega,by omega,by omega,by omega⟩
  .exact ⟨bb,by omega,okE,⟨_,xCE,lx,.inr ⟨0,mc,ex,cells,ty,rfl,i1,by rw[gE _ (by omega),gD _ (by omega),gC _ (by omega)];exact i4,fun i n hi=>⟨by rw[f0y];exact i5 i n hi,hb n (f0c hi)⟩⟩⟩,by omega,by omega,by omega,by omega⟩
 simp(disch:=first|omega|rfl) only[go_sem,eC,eD,eE]
 have d0:DcS hB.next bb hD.next hC1.next h.next hE [.int .i64 0,.int .i64 0,.nilSlice,.nilSlice,.int .i64 0,.int .i64 0,.nilSlice] (l,false):=⟨kE,by rw[←nC] at *;exact xDE,xE,zE,⟨by omega,by omega,by omega,by omega,by omega,by omega,by omega⟩⟩
 rw[jae]
 unfold jv4 jv3
 have c7:=d0.c7
 simp(disch:=first|omega|rfl) only[go_sem,c7]
 refine WC.imp (jc9 fu d0.rd) ?_
 rintro _ h1 ⟨rfl,k1,m1⟩
 rw[e1] at k1 ⊢
 have d1:=d0.sm k1 m1
 obtain⟨h2,p2,d2⟩:=d1.put [si v1,.int .i64 0,.nilSlice,.nilSlice,.int .i64 0,.int .i64 0,.nilSlice]
 have ok1:=d1.rd.ok
 have ok2:=d2.rd.ok
 have x1:=d1.c6
 simp(disch:=first|omega|rfl) only[go_sem,jac,x1,p2]
 rw[jae]
 have c72:=d2.c7
 simp(disch:=first|omega|rfl) only[go_sem,c72]
 refine WC.imp (jc9 fu d2.rd) ?_
 rintro _ h3 ⟨rfl,k3,m3⟩
 rw[e2] at k3 ⊢
 have d3:=d2.sm k3 m3
 obtain⟨h4,p4,d4⟩:=d3.put [si v1,si v2,.nilSlice,.nilSlice,.int .i64 0,.int .i64 0,.nilSlice]
 have ok3:=d3.rd.ok
 have ok4:=d4.rd.ok
 have x3:=d3.c6
 simp(disch:=first|omega|rfl) only[go_sem,jac,x3,p4]
 rw[jae]
 have c74:=d4.c7
 simp(disch:=first|omega|rfl) only[go_sem,f0q,c74]
 refine WC.imp (jtt fu d4.rd) ?_
 rintro _ h5 ⟨rfl,k5,m5⟩
 rw[e3] at k5 ⊢
 have d5:=d4.sm k5 m5
 obtain⟨h6,p6,d6⟩:=d5.put [si v1,si v2,.nilSlice,.nilSlice,si v3,.int .i64 0,.nilSlice]
 have ok5:=d5.rd.ok
 have ok6:=d6.rd.ok
 have x5:=d5.c6
 have c76:=d6.c7
 simp(disch:=first|omega|rfl) only[go_sem,x5,p6,c76]
 refine WC.imp (jtt fu d6.rd) ?_
 rintro _ h7 ⟨rfl,k7,m7⟩
 rw[e4] at k7 ⊢
 have d7:=d6.sm k7 m7
 obtain⟨h8,p8,d8⟩:=d7.put [si v1,si v2,.nilSlice,.nilSlice,si v3,si v4,.nilSlice]
 have ok7:=d7.rd.ok
 have ok8:=d8.rd.ok
 have x7:=d7.c6
 have c78:=d8.c7
 have q8:=d8.ne
 have j0:JkS hD.next hB.next bb hD.next hC1.next (si v1,si v2,si v3,si v4) h8 [] r4:=⟨d8.rd,c78,⟨.nilSlice,[],d8.c6,.nil,.nil,by simp⟩,⟨f0d _,by omega,by omega,by omega,by omega,by omega,by omega,by omega⟩⟩
 simp(disch:=first|omega|rfl) only[go_sem,x7,p8,c78]
 refine WC.imp (jmf fu (P:=jd7) (I:=fun l' r h'=>JkS hD.next hB.next bb hD.next hC1.next (si v1,si v2,si v3,si v4) h' l' r/\(∀ n,n<hD.next->n≠hB.next->h'.get n=h8.get n)/\h8.next<=h'.next) (fun l' r h' i=>i.1.rd) (fun l' r h' hl i _=>?_) (fun l' r r' h' h2 i k' m=>⟨i.1.sm k' m,fun n hn hne=>(m.keep n (by have:=i.2.2;omega) (by simpa using hne)).trans (i.2.1 n hn hne),by have:=m.nx;have:=i.2.2;omega⟩) ⟨j0,fun n hn _=>rfl,f0d _⟩) ?_
 .obtain ⟨v,h2,a1,a2,a3,a4⟩:=qeu f.up1 hl i.1
  exact juo a1 ⟨a2,fun n hn hne=>(a3 n hn hne).trans (i.2.1 n hn hne),by have:=i.2.2;omega⟩
 rintro _ h9 ⟨k9,lo9,nx9⟩
 rw[e5] at k9
 have ok9:=k9.rd.ok
 have c79:=k9.c7
 obtain⟨c,n3,x9,s9,nd9,hn9⟩:=k9.ex
 simp(disch:=first|omega|rfl) only[go_sem,c79]
 refine WC.imp (jtu f k9.rd) ?_
 rintro _ hG ⟨vs,ns,rfl,sG,hns,kG,mG⟩
 rw[e6] at sG kG
 have okG:=kG.ok
 have nG:=mG.nx
 have xG:=(mG.keep hD.next (by omega) (by simp;omega)).trans x9
 have c7G:=(mG.keep hC1.next (by omega) (by simp;omega)).trans c79
 have lowG:∀ n,n<hD.next->n≠hB.next->hG.get n=h8.get n:=fun n hn hne=>(mG.keep n (by omega) (by simpa using hne)).trans (lo9 n hn hne)
 obtain⟨hH,pH,okH,nH,xH,gH⟩:=jrx okG (b:=hD.next) (by omega) (some (.arr [si v1,si v2,vs,.nilSlice,si v3,si v4,c] 31))
 have kH:RdS hH hB.next bb r6:=kG.low (lo:=hD.next) okH (by omega) (by omega) (fun n hn=>gH n (by omega)) (by omega)
 have c7H:=(gH hC1.next (by omega)).trans c7G
 have i0:DeT hD.next hB.next bb hD.next hC1.next (si v1,si v2,si v3,si v4) hH js vl [] r6:=by
  refine⟨kH,c7H,⟨vs,_,c,ns,[],n3,xH,sG.keep (fun n hn=>gH n (by have:=hns n hn;omega)),.nil,(s9.keep (fun n hn=>mG.keep n (hn9 n hn).2.1 (by have:=hn9 n hn;simp;omega))).keep (fun n hn=>gH n (hn9 n hn).2.2.1),?_,fun n hn=>?_⟩,⟨by omega,by omega,by omega,by omega,by omega,by omega,by omega,by omega⟩⟩
  .rw [f1l]
   exact f0s.2 ⟨qma sG,nd9,fun u hu w hw e=>by have:=hns u hu;have:=hn9 w hw;omega⟩
  .rw [f1l] at hn
   rcases f0f.1 hn with hn | hn
   .have:=hns n hn;omega
   .have:=hn9 n hn;omega
 simp(disch:=first|omega|rfl) only[go_sem,xG,pH,c7H]
 refine WC.imp (jmf fu (P:=j41) (I:=fun l' r h'=>DeT hD.next hB.next bb hD.next hC1.next (si v1,si v2,si v3,si v4) h' js vl l' r/\(∀ n,n<hD.next->n≠hB.next->h'.get n=hH.get n)/\hH.next<=h'.next) (fun l' r h' i=>i.1.rd) (fun l' r h' hl i _=>?_) (fun l' r r' h' h2 i k' m=>⟨i.1.sm k' m,fun n hn hne=>(m.keep n (by have:=i.2.2;omega) (by simpa using hne)).trans (i.2.1 n hn hne),by have:=m.nx;have:=i.2.2;omega⟩) ⟨i0,fun n hn _=>rfl,f0d _⟩) ?_
 .exact WC.imp (j8g f hl i.1) (fun v h2 hh=>⟨hh.1,fun n hn hne=>(hh.2.1 n hn hne).trans (i.2.1 n hn hne),by have:=i.2.2;have:=hh.2.2;omega⟩)
 rintro _ hI ⟨iI,loI,nI⟩
 rw[e7] at iI
 have okI:=iI.rd.ok
 have c7I:=iI.c7
 obtain⟨z,z1,z2,z3⟩:=iI.rd.ex
 obtain⟨a,b,c',m1,m2,m3,xI,sa,sb,sc,_,hm⟩:=iI.ex
 have zI:hI.get h.next=some (.arr [.int .i64 0,.int .i64 0,.nilSlice,.nilSlice,.int .i64 0,.int .i64 0,.nilSlice] 31):=(loI h.next (by omega) (by omega)).trans ((gH h.next (by omega)).trans ((lowG h.next (by omega) (by omega)).trans d8.c0))
 cases fl with
 | true =>
  obtain⟨hK,eK,okK,nK,xK,gK⟩:=jrx okI (b:=h.next) hpos (some (.arr [.int .i64 0,.int .i64 0,.nilSlice,.nilSlice,.int .i64 0,.int .i64 0,.nilSlice] 31))
  simp(disch:=first|omega|rfl) only[go_sem,c7I,z1,zI,eK,xK]
  exact⟨3,rfl⟩
 | false =>
 cases rest with
 | nil =>
  obtain⟨hJ,eJ,okJ,nJ,xJ,gJ⟩:=jrx okI (b:=h.next) hpos (some (.arr [si v1,si v2,a,b,si v3,si v4,c'] 31))
  have c2:((([]:List Nat).length:Int)>0)=False:=by simp
  have fz:∀ kk hh,(∀ n∈m1++(m2++m3),hh.get n=hI.get n)->je3 (jc0 kk hh 4) [si v1,si v2,a,b,si v3,si v4,c']=some (jik ⟨v1,v2,v3,v4,js,⟨vl,bs⟩⟩):=fun kk hh hk=>by
   have sa':=sa.keep (h':=hh) (fun n hn=>hk n (by simp[hn]))
   have sb':Sl hh 54 3 false (OB hh) b bs m2:=sb.imp (fun n hn=>hk n (by simp[hn])) (fun row a m hm e=>e.keep (fun n hn=>hk n (by simp[hm n hn])))
   have sc':=sc.keep (h':=hh) (fun n hn=>hk n (by simp[hn]))
   exact ja7 rfl (ja7 rfl (ja7 (sa'.frz (fun _ _ _ e=>EI.frz e) (fun _=>rfl)) (ja7 (sb'.frz (fun _ _ _ e=>OB.frz e) (fun _=>rfl)) (ja7 rfl (ja7 rfl (ja7 (sc'.frz (fun _ _ _ e=>EI.frz e) (fun _=>rfl)) rfl))))))
  have fC:jh3 true hI 4 [.agg [si v1,si v2,a,b,si v3,si v4,c']]=some [.agg (jik ⟨v1,v2,v3,v4,js,⟨vl,bs⟩⟩)]:=by
   show ob (ob (je3 (jc0 true hI 4) [si v1,si v2,a,b,si v3,si v4,c']) (fun y=>some (AV.agg y))) (fun y=>ob (jh3 true hI 4 []) (fun r=>some (y::r)))=_
   rw[fz true hI (fun _ _=>rfl)]
   rfl
  have wC:=fun Q=>hC rfl hI _ Q fC
  by_cases e0:en=0
  .subst e0
   have er:qi5 ⟨v1,v2,v3,v4,js,⟨vl,bs⟩⟩ [] false 0=.tup [(true,jik ⟨v1,v2,v3,v4,js,⟨vl,bs⟩⟩),(false,[si 0])]:=rfl
   rw[er]
   simp(disch:=first|omega|rfl) only[go_sem,c7I,z1,z2,c2,xI,wC]
   unfold jv5
   simp(disch:=first|omega|rfl) only[go_sem,xI,zI,eJ,xJ]
   refine⟨4,?_⟩
   show ob (ob (je3 (jc0 kk hJ 4) [si v1,si v2,a,b,si v3,si v4,c']) (fun x=>ob (j4x (jc0 kk hJ 4) [(false,[si 0])]) (fun r=>some ((true,x)::r)))) (fun y=>some (AV.tup y))=_
   rw[fz kk hJ (fun n hn=>gJ n (by have:=hm n hn;omega))]
   rfl
  .have cn:(en≠0)=True:=eq_true e0
   have er:qi5 ⟨v1,v2,v3,v4,js,⟨vl,bs⟩⟩ [] false en=j43 en:=if_neg e0
   rw[er]
   obtain⟨hK,eK,okK,nK,xK,gK⟩:=jrx okI (b:=h.next) hpos (some (.arr [.int .i64 0,.int .i64 0,.nilSlice,.nilSlice,.int .i64 0,.int .i64 0,.nilSlice] 31))
   simp(disch:=first|omega|rfl) only[go_sem,c7I,z1,z2,c2,xI,wC,cn,zI,eK,xK]
   exact⟨3,rfl⟩
 | cons q rest =>
  obtain⟨hJ,eJ,okJ,nJ,xJ,gJ⟩:=jrx okI (b:=h.next) hpos (some (.arr [.int .i64 0,.int .i64 0,.nilSlice,.nilSlice,.int .i64 0,.int .i64 0,.nilSlice] 31))
  have c2:(((q::rest).length:Int)>0)=True:=eq_true (by simp)
  simp(disch:=first|omega|rfl) only[go_sem,c7I,z1,z2,c2,zI,eJ,xJ]
  exact⟨3,rfl⟩
end Go.Proofs.Ytkplfnkgodnmaaa.Ev
namespace Go.Proofs.Ytkplfnkgodnmaaa.Ms
set_option linter.all false
theorem jpr {α β:Type} {P:Rd->α×Rd} {Q:α->Rd->β×Rd} (hQ:∀ a,jau (Q a)) {r:Rd} {b:β} {t:List Nat} (h:jmw P Q r=(b,(t,false))):∃ a l',P r=(a,(l',false))/\Q a (l',false)=(b,(t,false)):=by
 obtain⟨a,⟨l',s'⟩,e⟩:∃ a r',P r=(a,r'):=⟨_,_,rfl⟩
 have h':Q (P r).1 (P r).2=(b,(t,false)):=h
 rw[e] at h'
 obtain⟨rfl,_⟩:=hQ a l' s' (by show(Q a (l',s')).2.2=false;rw[h'])
 exact⟨a,l',e,h'⟩
theorem qew {α β:Type} {P:Rd->α×Rd} {f:α->β} {r:Rd} {b:β} {t:List Nat} (h:j40 P f r=(b,(t,false))):∃ a,P r=(a,(t,false))/\b=f a:=by
 have h':(f (P r).1,(P r).2)=(b,(t,false)):=h
 obtain⟨h1,h2⟩:=Prod.mk.inj h'
 exact⟨(P r).1,by rw[←h2],h1.symm⟩
theorem smI {l t:List Nat} {a:Nat} (h:smF (l,false)=(a,(t,false))):l=a::t:=by
 cases l with
 | nil=>cases h
 | cons b l=>cases h;rfl
def jkn {α:Type} (P:Rd->α×Rd) (B:α->List Nat) (ok:α->Prop):Prop:=∀ l a t,(∀ q∈l,q<256)->P (l,false)=(a,(t,false))->ok a/\l=B a++t
theorem jkn.t {l b t:List Nat} (e:l=b++t) (h:∀ q∈l,q<256):∀ q∈t,q<256:=fun q hq=>h q (by rw[e];exact f19 _ hq)
theorem j4s:jkn smF (fun a=>[a]) (fun a=>a<256):=fun l a t hb h=>by
 have e:=smI h
 exact⟨hb a (by rw[e];simp),e⟩
theorem jnt {α:Type} {P:Rd->α×Rd} {B:α->List Nat} {ok:α->Prop} (hP:jau P) (k:jkn P B ok):∀ (n:Nat) (l:List Nat) (ys:List α) (t:List Nat),(∀ q∈l,q<256)->eachF P n (l,false)=(ys,(t,false))->ys.length=n/\(∀ a∈ys,ok a)/\l=(ys.map B).flatten++t
 | 0,l,ys,t,hb,h=>by
  cases h
  exact⟨rfl,by simp,rfl⟩
 | n+1,l,ys,t,hb,h=>by
  obtain⟨a,⟨l',s'⟩,e⟩:∃ a r',P (l,false)=(a,r'):=⟨_,_,rfl⟩
  have h':((P (l,false)).1::(eachF P n (P (l,false)).2).1,(eachF P n (P (l,false)).2).2)=(ys,(t,false)):=h
  rw[e] at h'
  obtain⟨h1,h2⟩:=Prod.mk.inj h'
  obtain⟨rfl,_⟩:=jau.eachF hP n l' s' (by rw[h2])
  obtain⟨o1,e1⟩:=k l a l' hb e
  obtain⟨o2,o3,e2⟩:=jnt hP k n l' _ t (jkn.t e1 hb) (Prod.ext rfl h2)
  subst h1
  refine⟨by rw[f03,o2],fun x hx=>?_,?_⟩
  .rcases f0h.1 hx with rfl | hx
   .exact o1
   .exact o3 x hx
  .rw [f08,f0u,f0l,←e2];exact e1
theorem jmg {α:Type} {P:Rd->α×Rd} {B:α->List Nat} {ok:α->Prop} (hP:jau P) (k:jkn P B ok):∀ (n:Nat) (l:List Nat) (ys:List α) (t:List Nat),(∀ q∈l,q<256)->manyF P n (l,false)=(ys,(t,false))->ys.length=n/\(∀ a∈ys,ok a)/\l=(ys.map B).flatten++t
 | 0,l,ys,t,hb,h=>by
  cases h
  exact⟨rfl,by simp,rfl⟩
 | n+1,l,ys,t,hb,h=>by
  obtain⟨a,⟨l',s'⟩,e⟩:∃ a r',P (l,false)=(a,r'):=⟨_,_,rfl⟩
  unfold manyF at h
  rw[e] at h
  cases s' with
  | true=>rw[if_pos rfl] at h;cases h
  | false =>
   rw[if_neg (by simp)] at h
   obtain⟨h1,h2⟩:=Prod.mk.inj h
   obtain⟨o1,e1⟩:=k l a l' hb e
   obtain⟨o2,o3,e2⟩:=jmg hP k n l' _ t (jkn.t e1 hb) (Prod.ext rfl h2)
   subst h1
   refine⟨by rw[f03,o2],fun x hx=>?_,?_⟩
   .rcases f0h.1 hx with rfl | hx
    .exact o1
    .exact o3 x hx
   .rw [f08,f0u,f0l,←e2];exact e1
theorem jgl {α:Type} {P:Rd->α×Rd} {B:α->List Nat} {ok:α->Prop} (hP:jau P) (k:jkn P B ok):jkn (eachR P) (fun ys=>ys.length::(ys.map B).flatten) (fun ys=>ys.length<256/\∀ a∈ys,ok a):=fun l ys t hb h=>by
 obtain⟨n,l',e,h'⟩:=jpr (P:=smF) (Q:=eachF P) (fun n=>jau.eachF hP n) h
 obtain⟨o1,e1⟩:=j4s l n l' hb e
 obtain⟨o2,o3,e2⟩:=jnt hP k n l' ys t (jkn.t e1 hb) h'
 subst o2
 exact⟨⟨o1,o3⟩,by rw[e1,e2];rfl⟩
theorem jmh:jkn jd7 jce (fun n=>n<4294967296):=fun l n t hb h=>by
 obtain⟨a,l1,e1,h⟩:=jpr (fun _=>jau.and .sm fun _=>jau.and .sm fun _=>jau.map .sm) h
 obtain⟨b,l2,e2,h⟩:=jpr (fun _=>jau.and .sm fun _=>jau.map .sm) h
 obtain⟨c,l3,e3,h⟩:=jpr (fun _=>jau.map .sm) h
 obtain⟨d,e4,rfl⟩:=qew h
 have e1:=smI e1
 have e2:=smI e2
 have e3:=smI e3
 have e4:=smI e4
 subst e4 e3 e2 e1
 have ha:=hb a (by simp)
 have hb':=hb b (by simp)
 have hc:=hb c (by simp)
 have hd:=hb d (by simp)
 rw[j77 hb',j77 hc,j77 hd]
 refine⟨by omega,?_⟩
 show a::b::c::d::t=(_ % 256)::(_ % 256)::(_ % 256)::(_ % 256)::t
 rw[show((a*256+b)*256+c)*256+d=a*16777216+b*65536+c*256+d by omega]
 rw[show(a*16777216+b*65536+c*256+d) / 16777216 % 256=a by omega,show(a*16777216+b*65536+c*256+d) / 65536 % 256=b by omega,show(a*16777216+b*65536+c*256+d) / 256 % 256=c by omega,show(a*16777216+b*65536+c*256+d) % 256=d by omega]
theorem jmi:jkn jep jpk (fun l=>l.length<256/\∀ v∈l,v<256):=fun l ys t hb h=>by
 obtain⟨o,e⟩:=jgl .sm j4s l ys t hb h
 have e':l=(ys.length::(ys.map (fun n=>[n])).flatten)++t:=e
 rw[jv1] at e'
 exact⟨o,e'⟩
theorem j8h:jkn jkl j39 OkO:=fun l o t hb h=>by
 obtain⟨b,l1,e1,h⟩:=jpr (fun _=>jau.and .sm fun _=>jau.map .sm) h
 obtain⟨v,l2,e2,h⟩:=jpr (fun _=>jau.map .sm) h
 obtain⟨n,e3,rfl⟩:=qew h
 have e1:=smI e1
 have e2:=smI e2
 have e3:=smI e3
 subst e3 e2 e1
 have h1:=hb b (by simp)
 have h2:=hb v (by simp)
 have h3:=hb n (by simp)
 refine⟨⟨by show b % 4<4;omega,by show b / 8<32;omega,h2,h3⟩,?_⟩
 show b::v::n::t=(b % 4+(if decide (b / 4 % 2=1)=true then 4 else 0)+8*(b / 8))::v::n::t
 congr 1
 by_cases c:b / 4 % 2=1
 .rw [if_pos (decide_eq_true c)];omega
 .rw [if_neg (by simpa using c)];omega
theorem j8i:jkn jmx (fun r=>[jtl r]) (fun r=>r.1<16/\r.2<16):=fun l r t hb h=>by
 obtain⟨n,e,rfl⟩:=qew h
 have e:=smI e
 subst e
 have h1:=hb n (by simp)
 refine⟨⟨by show n / 16<16;omega,by show n % 16<16;omega⟩,?_⟩
 show n::t=(16*(n / 16)+n % 16)::t
 congr 1;omega
theorem j8j:jkn jv0 jje OkI:=fun l x t hb h=>by
 obtain⟨op,l1,e1,h⟩:=jpr (fun _=>jau.and .sm fun _=>jau.and .sm fun _=>jau.and (jau.manyF jii _) fun _=>jau.map (jau.manyF (jau.map .sm) _)) h
 obtain⟨k,l2,e2,h⟩:=jpr (fun _=>jau.and .sm fun _=>jau.and (jau.manyF jii _) fun _=>jau.map (jau.manyF (jau.map .sm) _)) h
 obtain⟨s,l3,e3,h⟩:=jpr (fun _=>jau.and (jau.manyF jii _) fun _=>jau.map (jau.manyF (jau.map .sm) _)) h
 obtain⟨os,l4,e4,h⟩:=jpr (fun _=>jau.map (jau.manyF (jau.map .sm) _)) h
 obtain⟨rs,e5,rfl⟩:=qew h
 have e1:=smI e1
 have e2:=smI e2
 have e3:=smI e3
 subst e3 e2 e1
 have h1:=hb op (by simp)
 have h2:=hb k (by simp)
 have h3:=hb s (by simp)
 have hb3:∀ q∈l3,q<256:=fun q hq=>hb q (by simp[hq])
 obtain⟨o1,o2,f1⟩:=jmg jii j8h k l3 os l4 hb3 e4
 obtain⟨o3,o4,f2⟩:=jmg (jau.map .sm) j8i s l4 rs t (jkn.t f1 hb3) e5
 rw[j78] at f2
 refine⟨⟨h1,by show os.length<256;omega,by show rs.length<256;omega,o2,o4⟩,?_⟩
 show op::k::s::l3=[op,os.length,rs.length]++((os.map j39).flatten++rs.map jtl)++t
 rw[o1,o3,f1,f2,f0l,f0l];rfl
theorem j8k:jkn j38 jpl (fun e=>e.block<256/\e.args.length<256/\∀ v∈e.args,v<256):=fun l x t hb h=>by
 obtain⟨b,l1,e1,h⟩:=jpr (fun _=>jau.map jdi) h
 obtain⟨ys,e2,rfl⟩:=qew h
 have e1:=smI e1
 subst e1
 obtain⟨o,f⟩:=jmi l1 ys t (fun q hq=>hb q (by simp[hq])) e2
 exact⟨⟨hb b (by simp),o.1,o.2⟩,by show b::l1=(b::jpk ys)++t;rw[f];rfl⟩
theorem j8l:jkn j41 j42 OkB:=fun l x t hb h=>by
 obtain⟨p,l1,e1,h⟩:=jpr (fun _=>jau.and (jau.eachR jpj) fun _=>jau.map (jau.eachR jkm)) h
 obtain⟨i,l2,e2,h⟩:=jpr (fun _=>jau.map (jau.eachR jkm)) h
 obtain⟨e,e3,rfl⟩:=qew h
 obtain⟨o1,f1⟩:=jmi l p l1 hb e1
 have b1:=jkn.t f1 hb
 obtain⟨o2,f2⟩:=jgl jpj j8j l1 i l2 b1 e2
 have b2:=jkn.t f2 b1
 obtain⟨o3,f3⟩:=jgl jkm j8k l2 e t b2 e3
 refine⟨⟨o1.1,o1.2,o2.1,o2.2,o3.1,o3.2⟩,?_⟩
 show l=(jpk p++(i.length::((i.map jje).flatten++(e.length::(e.map jpl).flatten))))++t
 rw[f1,f2,f3]
 simp only[f0l,f29]
theorem j8m:jkn qjl jtm OkS:=fun l x t hb h=>by
 obtain⟨a,l1,e1,h⟩:=jpr (fun _=>jau.and .sm fun _=>jau.and jck fun _=>jau.and jck fun _=>jau.and (jau.eachR jck) fun _=>jau.and jdi fun _=>jau.map (jau.eachR jfm)) h
 obtain⟨b,l2,e2,h⟩:=jpr (fun _=>jau.and jck fun _=>jau.and jck fun _=>jau.and (jau.eachR jck) fun _=>jau.and jdi fun _=>jau.map (jau.eachR jfm)) h
 obtain⟨sd,l3,e3,h⟩:=jpr (fun _=>jau.and jck fun _=>jau.and (jau.eachR jck) fun _=>jau.and jdi fun _=>jau.map (jau.eachR jfm)) h
 obtain⟨st,l4,e4,h⟩:=jpr (fun _=>jau.and (jau.eachR jck) fun _=>jau.and jdi fun _=>jau.map (jau.eachR jfm)) h
 obtain⟨j,l5,e5,h⟩:=jpr (fun _=>jau.and jdi fun _=>jau.map (jau.eachR jfm)) h
 obtain⟨v,l6,e6,h⟩:=jpr (fun _=>jau.map (jau.eachR jfm)) h
 obtain⟨bs,e7,rfl⟩:=qew h
 have e1:=smI e1
 have e2:=smI e2
 subst e2 e1
 have hb2:∀ q∈l2,q<256:=fun q hq=>hb q (by simp[hq])
 obtain⟨o3,f3⟩:=jmh l2 sd l3 hb2 e3
 have hb3:=jkn.t f3 hb2
 obtain⟨o4,f4⟩:=jmh l3 st l4 hb3 e4
 have hb4:=jkn.t f4 hb3
 obtain⟨o5,f5⟩:=jgl jck jmh l4 j l5 hb4 e5
 have hb5:=jkn.t f5 hb4
 obtain⟨o6,f6⟩:=jmi l5 v l6 hb5 e6
 have hb6:=jkn.t f6 hb5
 obtain⟨o7,f7⟩:=jgl jfm j8l l6 bs t hb6 e7
 refine⟨⟨hb a (by simp),hb b (by simp),o3,o4,o5.1,o5.2,o6.1,o6.2,o7.1,o7.2⟩,?_⟩
 show a::b::l2=([a,b]++(jce sd++(jce st++(j.length::((j.map jce).flatten++(jpk v++(bs.length::(bs.map j42).flatten)))))))++t
 rw[f3,f4,f5,f6,f7]
 simp only[f0l,f29,f1l]
end Go.Proofs.Ytkplfnkgodnmaaa.Ms
