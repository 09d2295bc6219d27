/- A job of moves: a step of its doing: a free move, or a turn. -/
import Derived.Test.YtmcfkgjjnhlkiaaYg
namespace Go.Proofs.Ytmcfkgjjnhlkiaa.Ev
open Go Go.RowKit Go.Proofs.Ytmcfkgjjnhlkiaa.Ms
attribute [local go_sem] Int.reduceToNat reduceCtorEq Nat.reduceAdd Nat.reduceMul Nat.reduceEqDiff Int.reduceEq Int.reduceLT Int.reduceLE Int.reduceNeg Int.reduceAdd Int.reduceSub Int.reduceMul Int.reduceNe
attribute [local go_sem ↓] reduceIte
set_option linter.all false
set_option maxRecDepth 100000
set_option maxHeartbeats 4000000
structure JS (h:Hp) (p mb:Nat) (m:Nat×Nat) (fr:Nat) (cls:List (Pl×Nat)) (left out:List Mo) (lv ov:SV) (b bo:Nat):Prop where
 ok:Ok h
 xp:h.get p=some (.arr (JC m lv (.map mb) fr ov) 51)
 xm:h.get mb=some (.map false (esK jbm cls))
 ol:OX h lv left b
 oo:OL 39 6 jad h ov out bo
 p1:1<=p
 lp:p<h.next
 m1:1<=mb
 lm:mb<h.next
 d1:p≠mb
 d2:p≠b
 d3:p≠bo
 d4:mb≠b
 d5:mb≠bo
 d6:1<=b->b≠bo
section
variable {h h':Hp} {p mb:Nat} {m:Nat×Nat} {fr:Nat} {cls:List (Pl×Nat)} {left out:List Mo} {lv ov:SV} {b bo:Nat}
theorem JS.grw (k:JS h p mb m fr cls left out lv ov b bo) (g:Grw h h'):JS h' p mb m fr cls left out lv ov b bo :=
 ⟨g.ok,(g.g _ k.lp).trans k.xp,(g.g _ k.lm).trans k.xm,k.ol.keep g.nx (fun _ h2=>g.g _ h2),k.oo.keep g.nx (fun _ h2=>g.g _ h2),k.p1,f0k k.lp g.nx,k.m1,f0k k.lm g.nx,k.d1,k.d2,k.d3,k.d4,k.d5,k.d6⟩
theorem OX.setfr (k:OX h lv left b) (ok:Ok h) {i:Nat} {y:Mo} (hy:left[i]?=some y) (s:Pl):∃ cs cs',1<=b/\h.get b=some (.arr cs 39)/\ja0 (i*6) (jbm s) cs=some cs'/\OX (h.put b (some (.arr cs' 39))) lv (left.set i ⟨s,y.to⟩) b:=by
 rcases k with⟨rfl,_,_⟩ | ⟨mc,tl,rfl,hmc,hb1,hb2,hg,htl⟩
 .simp at hy
 have hil:=(f0e.1 hy).1
 have e0:left=left.take i++y::left.drop (i+1):=by
  have e1:left[i]=y:=(f0e.1 hy).2
  rw[←e1,←f0v hil,List.take_append_drop]
 have lt:((left.take i).flatMap jad).length=i*6:=by rw[jbk jaj,f1o,Nat.min_eq_left (Nat.le_of_lt hil)]
 have es:left.set i ⟨s,y.to⟩=left.take i++⟨s,y.to⟩::left.drop (i+1):=List.set_eq_take_append_cons_drop .. |>.trans (by rw[if_pos hil])
 refine⟨_,(left.set i ⟨s,y.to⟩).flatMap jad++tl,hb1,hg,(ja6 _).2 ⟨?_,?_⟩,.inr ⟨mc,tl,by rw[List.length_set],by rw[List.length_set];exact hmc,hb1,by rw[Hp.next_put];exact hb2,by rw[jdg ok hb1,if_pos rfl],by rw[List.length_set];exact htl⟩⟩
 .rw [f0j,jbk jaj];show i*6+3<=_;omega
 .rw [es]
  conv=>rhs;rw[e0]
  simp only[List.flatMap_append,f01,f1b]
  show _=((left.take i).flatMap jad++(jad y++((left.drop (i+1)).flatMap jad++tl))).take (i*6)++(jbm s++((left.take i).flatMap jad++(jad y++((left.drop (i+1)).flatMap jad++tl))).drop (i*6+3))
  have hd:∀ r:List SV,((left.take i).flatMap jad++r).drop (i*6+3)=r.drop 3:=fun r=>by
   rw[←lt,List.drop_append,f1k (by omega),f19];rfl
  rw[List.take_left' lt,hd]
  rfl
theorem j85 {F:Fns} {m:Nat×Nat} {x:Mo} {q:Nat} (hl:left.length<=500) (hc:∀ y∈left,∃ c,c<2/\jaz cls y.to=some c) {x1 x2 x3 x4 x5 x6 x7 x16 x17 x18 x19:AV} {Q:Ex->St->Prop} :
 ∀ (d i:Nat) (_:i+d=left.length) {h:Hp} (_:JS h p mb m fr cls left out lv ov b bo) (_:q<h.next) (_:h.get q=some (.arr (jad x) 39)) {c:Nat} (_:c<2) {x9 x11 x13:AV}
  (hQ:∀ h' c' x9 x11 x13,Grw h h'->c'<2->Q (.exit 2) (.mk [.s (.ptr p 0),x1,x2,x3,x4,x5,x6,x7,vi ((c':Nat):Int),x9,.s (.ptr q 0),x11,.s lv,x13,vi left.length,vi left.length,x16,x17,x18,x19] h')),
  W F jnc.loop (.mk [.s (.ptr p 0),x1,x2,x3,x4,x5,x6,x7,vi (c:Int),x9,.s (.ptr q 0),x11,.s lv,x13,vi left.length,vi i,x16,x17,x18,x19] h) Q
 | 0,i,hd,h,k,lq,xq,c,hc2,x9,x11,x13,hQ=>by
  obtain rfl:i=left.length:=by omega
  rw[jbg]
  unfold jnc
  simp(disch:=first|omega|rfl) only[go_sem,f1r]
  exact hQ h c _ _ _ ⟨k.ok,f0b _,fun _ _=>rfl⟩ hc2
 | d+1,i,hd,h,k,lq,xq,c,hc2,x9,x11,x13,hQ=>by
  have hil:i<left.length:=by omega
  have hlt:(i:Int)<(left.length:Int):=by omega
  have hs:(i:Int)+1=((i+1:Nat):Int):=by omega
  obtain⟨y,hu⟩:∃ u,left[i]?=some u:=⟨_,f0g hil⟩
  obtain⟨c',hc',ha⟩:=hc y (f0t hu)
  have ix:=k.ol.ix hu
  have rr:=k.ol.at hu
  have ok:=k.ok
  obtain⟨hA,eA,okA,nA,xA,gA⟩:=jsq ok [.int .i64 0,.int .i64 0,.int .i64 0,.int .i64 0,.int .i64 0,.int .i64 0] (jad y) 39
  have G:Grw h hA:=⟨okA,by omega,gA⟩
  have yq:=(gA _ lq).trans xq
  have kA:=k.grw G
  have yp:=kA.xp
  have ym:=kA.xm
  have lA:=jyx (okf:=false) (k:=y.to) ym
  rw[ha] at lA
  have rcs:=fun(c:Nat) (h:c<2) (x9 x11 x13:AV)=>j85 (F:=F) (m:=m) (x:=x) (q:=q) hl hc (x1:=x1) (x2:=x2) (x3:=x3) (x4:=x4) (x5:=x5) (x6:=x6) (x7:=x7) (x16:=x16) (x17:=x17) (x18:=x18) (x19:=x19) d (i+1) (by omega) kA (by omega) yq h (x9:=x9) (x11:=x11) (x13:=x13) (Q:=Q) (fun h' c' y9 y11 y13 g=>hQ h' c' y9 y11 y13 (G.trans g))
  unfold jad at rr eA xA yq
  unfold JC at yp
  rw[jbg]
  unfold jnc jw1
  by_cases he:y.fr.k=x.to.k/\y.fr.c=x.to.c/\y.fr.n=x.to.n
  .simp (disch:=first|omega|rfl) only[go_sem,jak,eq_true hlt,ix,rr,eA,xA,yq,jgo,j0h,eq_true he,yp,jd6,lA,j3y,f1y,hs]
   exact rcs c' hc' _ _ _
  .simp (disch:=first|omega|rfl) only[go_sem,jak,eq_true hlt,ix,rr,eA,xA,yq,jgo,j0h,eq_false he,hs]
   exact rcs c hc2 _ _ _
def jcm (s g:Pl) (y:Mo):Mo:=if y.fr=g then ⟨s,y.to⟩ else y
theorem j8p {F:Fns} {m:Nat×Nat} {x:Mo} {q:Nat} (hl:left.length<=500) {x8 x9 x11 x12 x13 x14 x15 x16 x17 x18 x19:AV} {Q:Ex->St->Prop} :
 ∀ (d i:Nat) (_:i+d=left.length) {h:Hp} {lc:List Mo} (_:lc=(left.take i).map (jcm ⟨2,0,fr⟩ x.to)++left.drop i) (_:JS h p mb m fr cls lc out lv ov b bo) (_:q<h.next) (_:q≠b) (_:h.get q=some (.arr (jad x) 39)) {x1 x2 x3 x5:AV}
  (hQ:∀ h' x1 x2 x3 x5,JS h' p mb m fr cls (left.map (jcm ⟨2,0,fr⟩ x.to)) out lv ov b bo->Q (.exit 4) (.mk [.s (.ptr p 0),x1,x2,x3,.s lv,x5,vi left.length,vi left.length,x8,x9,.s (.ptr q 0),x11,x12,x13,x14,x15,x16,x17,x18,x19] h')),
  W F jnd.loop (.mk [.s (.ptr p 0),x1,x2,x3,.s lv,x5,vi left.length,vi i,x8,x9,.s (.ptr q 0),x11,x12,x13,x14,x15,x16,x17,x18,x19] h) Q
 | 0,i,hd,h,lc,hlc,k,lq,qb,xq,x1,x2,x3,x5,hQ=>by
  obtain rfl:i=left.length:=by omega
  rw[jbg]
  unfold jnd
  simp(disch:=first|omega|rfl) only[go_sem,f1r]
  rw[f0s (f0b _),List.drop_length,f1n] at hlc
  subst hlc
  exact hQ h _ _ _ _ k
 | d+1,i,hd,h,lc,hlc,k,lq,qb,xq,x1,x2,x3,x5,hQ=>by
  have hil:i<left.length:=by omega
  have hlt:(i:Int)<(left.length:Int):=by omega
  have hs:(i:Int)+1=((i+1:Nat):Int):=by omega
  obtain⟨y,hu0⟩:∃ u,left[i]?=some u:=⟨_,f0g hil⟩
  have ey:left[i]=y:=(f0e.1 hu0).2
  have lti:((left.take i).map (jcm ⟨2,0,fr⟩ x.to)).length=i:=by rw[f05,f1o,Nat.min_eq_left (Nat.le_of_lt hil)]
  have hu:lc[i]?=some y:=by
   rw[hlc,f1e (by omega),lti,Nat.sub_self,f0v hil,ey];rfl
  have ix:=k.ol.ix hu
  have rr:=k.ol.at hu
  have ok:=k.ok
  obtain⟨hA,eA,okA,nA,xA,gA⟩:=jsq ok [.int .i64 0,.int .i64 0,.int .i64 0,.int .i64 0,.int .i64 0,.int .i64 0] (jad y) 39
  have G:Grw h hA:=⟨okA,by omega,gA⟩
  have yq:=(gA _ lq).trans xq
  have kA:=k.grw G
  have yp:=kA.xp
  have eL:∀ z,z=jcm ⟨2,0,fr⟩ x.to y->lc.set i z=(left.take (i+1)).map (jcm ⟨2,0,fr⟩ x.to)++left.drop (i+1):=fun z hz=>by
   rw[hlc,List.set_append_right _ _ (by omega),lti,Nat.sub_self,f0v hil,ey,List.set_cons_zero,hz,f0z hil,ey,f1h]
   simp
  unfold jad at rr eA xA yq
  unfold JC at yp
  rw[jbg]
  unfold jnd jw2
  by_cases he:y.fr.k=x.to.k/\y.fr.c=x.to.c/\y.fr.n=x.to.n
  .obtain ⟨cs,cs',hb1,xb,hw,oX⟩:=kA.ol.setfr okA hu ⟨2,0,fr⟩
   obtain⟨hB,eB,okB,nB,xB,gB⟩:=ju4 okA hb1 (some (.arr cs' 39))
   rw[eB] at oX
   unfold jbm at hw
   have et:jcm ⟨2,0,fr⟩ x.to y=⟨⟨2,0,fr⟩,y.to⟩:=by unfold jcm;rw[if_pos (Pl.eq_iff.2 he)]
   rw[eL _ et.symm] at oX
   have hw':ja0 (i*6) [si 2,si 0,si fr] cs=some cs':=hw
   simp(disch:=first|omega|rfl) only[go_sem,jak,eq_true hlt,ix,rr,eA,xA,yq,jgo,j0h,eq_true he,yp,xb,hw',eB,hs]
   have d6:=kA.d6 hb1
   have lb:=kA.oo.lt okA
   refine j8p (F:=F) hl d (i+1) (by omega) rfl ⟨okB,(gB _ kA.d2).trans kA.xp,(gB _ kA.d4).trans kA.xm,oX,kA.oo.keep (by omega) (fun _ h2=>gB _ d6.symm),k.p1,by have:=k.lp;omega,k.m1,by have:=k.lm;omega,k.d1,k.d2,k.d3,k.d4,k.d5,k.d6⟩ (by omega) qb ((gB _ qb).trans ((gA _ lq).trans xq)) hQ
  .have et:jcm ⟨2,0,fr⟩ x.to y=y:=by unfold jcm;rw[if_neg (fun h=>he (Pl.eq_iff.1 h))]
   have eLc:=eL y et.symm
   have e1:lc.set i y=lc:=by
    have:=(f0e.1 hu)
    obtain⟨h1,h2⟩:=this
    rw[←h2,List.set_getElem_self]
   simp(disch:=first|omega|rfl) only[go_sem,jak,eq_true hlt,ix,rr,eA,xA,yq,jgo,j0h,eq_false he,hs]
   exact j8p (F:=F) hl d (i+1) (by omega) (e1.symm.trans eLc) kA (by omega) qb ((gA _ lq).trans xq) hQ
end
section
variable {F:Fns} (J:JoF F) {h:Hp} {p mb:Nat} {m:Nat×Nat} {fr:Nat} {cls:List (Pl×Nat)} {left out:List Mo} {lv ov:SV} {b bo:Nat}
include J
theorem j30 (k:JS h p mb m fr cls left out lv ov b bo) (hc:∀ y∈left,∃ c,c<2/\jaz cls y.to=some c) (hne:left≠[]) (hl:left.length<=500) (ho:out.length<=500) {x1 x2 x3 x4 x5 x6 x7 x8 x9 x10 x11 x12 x13 x14 x15 x16 x17 x18 x19:AV} {Q:Ex->St->Prop}
 (hF:∀ (A B:List Mo) (y:Mo) (c:Nat) h' lv' ov' b' bo' y1 y2 y3 y4 y5 y6 y7 y8 y9 y10 y11 y12 y13 y14 y15 y16 y17 y18 y19,left=A++y::B->je4 left y=true->c<2->JS h' p mb m fr cls (A++B) (out++jmg (scr m) y.fr y.to c) lv' ov' b' bo'->Q .normal (.mk [.s (.ptr p 0),y1,y2,y3,y4,y5,y6,y7,y8,y9,y10,y11,y12,y13,y14,y15,y16,y17,y18,y19] h'))
 (hT:∀ (x:Mo) (r:List Mo) (c:Nat) h' lv' ov' b' bo' y1 y2 y3 y4 y5 y6 y7 y8 y9 y10 y11 y12 y13 y14 y15 y16 y17 y18 y19,left=x::r->(∀ y∈left,je4 left y=false)->c<2->JS h' p mb m fr cls (left.map (jcm ⟨2,0,fr⟩ x.to)) (out++jmg (scr m) x.to ⟨2,0,fr⟩ c) lv' ov' b' bo'->Q .normal (.mk [.s (.ptr p 0),y1,y2,y3,y4,y5,y6,y7,y8,y9,y10,y11,y12,y13,y14,y15,y16,y17,y18,y19] h')) :
 W F jrg (.mk [.s (.ptr p 0),x1,x2,x3,x4,x5,x6,x7,x8,x9,x10,x11,x12,x13,x14,x15,x16,x17,x18,x19] h) Q:=by
 unfold jrg
 have ok0:=k.ok
 simp(disch:=first|omega|rfl) only[go_sem]
 refine WC.imp (j3s J k.ok (by omega) k.ol k.lp k.xp) ?_
 rintro v h1 ⟨g1,⟨j,y,hy,hf,hno,rfl⟩ | ⟨hno,rfl⟩⟩
 .have k1:=k.grw g1
  have ok1:=g1.ok
  have c1:((0:Int)<=(j:Int))=True:=eq_true (by omega)
  have hs:(j:Int)+1=((j+1:Nat):Int):=by omega
  have hjl:=(f0e.1 hy).1
  obtain⟨c,hc2,hcc⟩:=hc y (f0t hy)
  have ix:=k1.ol.ix hy
  have rr:=k1.ol.at hy
  obtain⟨hA,eA,okA,nA,xA,gA⟩:=jsq ok1 [.int .i64 0,.int .i64 0,.int .i64 0,.int .i64 0,.int .i64 0,.int .i64 0] (jad y) 39
  have G:Grw h1 hA:=⟨okA,by omega,gA⟩
  have kA:=k1.grw G
  have yp:=k1.xp
  have zp:=kA.xp
  have zm:=kA.xm
  unfold jad at rr eA xA
  unfold JC at yp zp
  simp(disch:=first|omega|rfl) only[go_sem,c1,yp,ix,rr,eA,xA,zp]
  refine Eq.mpr (jqh (u:=vi (c:Int)) okA rfl (fun h' g=>?_)) ?_
  .exact (jyx (L:=cls) (k:=y.to) (by rw[g];exact zm)).trans (by rw[hcc];rfl)
  simp(disch:=first|omega|rfl) only[go_sem]
  refine jyt okA (m:=m) (lv:=lv) (cl:=.map mb) (ov:=ov) (fr:=fr) (a:=y.fr) (z:=y.to) (out:=out) (b:=bo) hc2 kA.lp k.p1 k.d3 (by omega) kA.oo kA.xp (J.X _ (by simp)) (J.T _) (J.X _ (by simp)) (J.T _) (fun hP ov' b' okP nP oP lbo xpP gP=>?_)
  have xpP':=xpP
  unfold JC at xpP'
  simp(disch:=first|omega|rfl) only[go_sem,jak,xpP',hs]
  have lb:=kA.ol.lt okA
  have olP:OX hP lv left b:=kA.ol.keep nP (fun h1 h2=>gP _ h2 k.d2.symm (kA.d6 h1))
  refine j3x (J.X _ (by simp)) (J.T _) okP (by omega) olP hjl (fun hD lv' okD nD gD olD=>?_)
  have xpD:=(gD _ k.d2).trans xpP
  have xpD':=xpD
  unfold JC at xpD'
  obtain⟨hS,eS,okS,nS,xS,gS⟩:=ju4 okD k.p1 (some (.arr [si m.1,si m.2,lv',.map mb,si 2,si 0,si fr,ov'] 51))
  simp(disch:=first|omega|rfl) only[go_sem,xpD',eS]
  have e0:left=left.take j++y::left.drop (j+1):=by
   have e1:left[j]=y:=(f0e.1 hy).2
   rw[←e1,←f0v hjl,List.take_append_drop]
  have er:left.eraseIdx j=left.take j++left.drop (j+1):=List.eraseIdx_eq_take_drop_succ ..
  rw[er] at olD
  have l1:=kA.lp
  have l2:=kA.lm
  have hbp:b'≠p:=by omega
  have hbb:b≠b':=by omega
  have lbo':=oP.lt okP
  refine hF (left.take j) (left.drop (j+1)) y c hS lv' ov' b b' _ _ _ _ _ _ _ _ _ _ _ _ _ _ _ _ _ _ _ e0 hf hc2 ⟨okS,xS,?_,olD.keep (by omega) (fun _ _=>gS _ k.d2.symm),oP.keep (by omega) (fun _ _=>(gS _ hbp).trans (gD _ hbb.symm)),k.p1,by omega,k.m1,by omega,k.d1,k.d2,hbp.symm,k.d4,by omega,fun _=>hbb⟩
  exact(gS _ k.d1.symm).trans ((gD _ k.d4).trans ((gP _ l2 k.d1.symm k.d5).trans zm))
 .have k1:=k.grw g1
  have ok1:=g1.ok
  have c1:((0:Int)<=-1)=False:=eq_false (by omega)
  obtain⟨x,r,e0⟩:∃ x r,left=x::r:=by
   cases left with
   | nil=>exact absurd rfl hne
   | cons x r=>exact⟨x,r,rfl⟩
  have hx:left[0]?=some x:=by rw[e0];rfl
  have ix:ju2 6 (.s lv) (vi 0)=some (.s (.ptr b 0)):=by
   have:=k1.ol.ix hx
   rw[f06] at this;exact this
  have rr:rdB (h1.get b) 0 6=some (jad x):=by
   have:=k1.ol.at hx
   rw[f06] at this;exact this
  obtain⟨hA,eA,okA,nA,xA,gA⟩:=jsq ok1 [.int .i64 0,.int .i64 0,.int .i64 0,.int .i64 0,.int .i64 0,.int .i64 0] (jad x) 39
  have G:Grw h1 hA:=⟨okA,by omega,gA⟩
  have kA:=k1.grw G
  have yp:=k1.xp
  have zp:=kA.xp
  have ll:=kA.ol.len
  have lbA:=k1.ol.lt ok1
  have xA0:=xA
  unfold jad at rr eA
  unfold JC at yp zp
  simp(disch:=first|omega|rfl) only[go_sem,c1]
  unfold jw3
  simp(disch:=first|omega|rfl) only[go_sem,yp,ix,rr,eA,zp,ll]
  refine j85 (m:=m) (fr:=fr) (cls:=cls) (out:=out) (ov:=ov) (b:=b) (bo:=bo) (mb:=mb) (x:=x) hl hc left.length 0 (by omega) kA (by omega) xA (c:=0) (by omega) (fun hB c x9 x11 x13 gB hc2=>?_)
  have kB:=kA.grw gB
  have wp:=kB.xp
  have okB:=gB.ok
  have xB:hB.get h1.next=some (.arr (jad x) 39):=(gB.g _ (by omega)).trans xA
  have xB':=xB
  unfold jad at xB'
  unfold JC at wp
  simp(disch:=first|omega|rfl) only[go_sem,xB',wp]
  refine jyt okB (m:=m) (lv:=lv) (cl:=.map mb) (ov:=ov) (fr:=fr) (a:=x.to) (z:=⟨2,0,fr⟩) (out:=out) (b:=bo) hc2 kB.lp k.p1 k.d3 (by omega) kB.oo kB.xp (J.X _ (by simp)) (J.T _) (J.X _ (by simp)) (J.T _) (fun hP ov' b' okP nP oP lbo xpP gP=>?_)
  have xpP':=xpP
  unfold JC at xpP'
  have olP:OX hP lv left b:=kB.ol.keep nP (fun h1 h2=>gP _ h2 k.d2.symm (kB.d6 h1))
  have l1:=kB.lp
  have l2:=kB.lm
  have lb:=kB.ol.lt okB
  have nB:=gB.nx
  have lbo':=oP.lt okP
  have kP:JS hP p mb m fr cls left (out++jmg (scr m) x.to ⟨2,0,fr⟩ c) lv ov' b b':=⟨okP,xpP,(gP _ l2 k.d1.symm k.d5).trans kB.xm,olP,oP,k.p1,by omega,k.m1,by omega,k.d1,k.d2,by omega,k.d4,by omega,fun _=>by omega⟩
  simp(disch:=first|omega|rfl) only[go_sem,xpP',ll]
  have lbo2:=k1.oo.lt ok1
  have lp1:=k1.lp
  refine j8p (m:=m) (fr:=fr) (cls:=cls) (out:=out++jmg (scr m) x.to ⟨2,0,fr⟩ c) (ov:=ov') (b:=b) (bo:=b') (mb:=mb) (x:=x) (q:=h1.next) hl left.length 0 (by omega) (lc:=left) (by simp) kP (by omega) (by omega) ((gP _ (by omega) (by omega) (by omega)).trans xB) (fun h' x1 x2 x3 x5 k'=>?_)
  simp(disch:=first|omega|rfl) only[go_sem]
  exact hT x r c h' lv ov' b b' _ _ _ _ _ _ _ _ _ _ _ _ _ _ _ _ _ _ _ e0 hno hc2 k'
end
def VP (m:Nat×Nat) (fr:Nat) (p:Pl):Prop:=jcc m p (fr+1)∨∃ c,c<2/\p=scr m c
def jyz (m:Nat×Nat) (fr:Nat) (x:Mo):Prop:=VP m fr x.fr/\VP m fr x.to/\¬(x.fr.k=2/\x.to.k=2)
theorem jy0 {m:Nat×Nat} {fr c:Nat} {a z:Pl} (hc:c<2) (ha:jcc m a (fr+1)) (hz:jcc m z (fr+1)):∀ x∈jmg (scr m) a z c,jyz m fr x:=fun x hx=>by
 unfold jmg at hx
 split at hx
 .rcases f0m.1 hx with rfl | hx
  .exact ⟨.inl ha,.inr ⟨c,hc,rfl⟩,fun h=>by have h2:(scr m c).k=2:=h.2;simp[scr] at h2⟩
  .rw [f13] at hx
   subst hx
   exact⟨.inr ⟨c,hc,rfl⟩,.inl hz,fun h=>by have h2:(scr m c).k=2:=h.1;simp[scr] at h2⟩
 .rename_i h
  rw[f13] at hx
  subst hx
  exact⟨.inl ha,.inl hz,h⟩
theorem jcc.up {m:Nat×Nat} {p:Pl} {fr:Nat} (h:jcc m p fr):jcc m p (fr+1):=by
 rcases h with⟨h1,h2,h3⟩ | h
 .exact .inl ⟨h1,h2,by omega⟩
 .exact .inr h
structure DV (m:Nat×Nat) (fr:Nat) (cls:List (Pl×Nat)) (left out:List Mo):Prop where
 cls:∀ y∈left,∃ c,c<2/\jaz cls y.to=some c
 le:∀ y∈left,jcc m y.fr (fr+1)/\jcc m y.to fr
 out:∀ x∈out,jyz m fr x
theorem jy1 {sc:Nat->Pl} {sp:Pl} {L left out:List Mo} {x:Mo} (k:DoI sc sp L (x::left) out):∃ z∈(x::left).map (jcm sp x.to),je4 ((x::left).map (jcm sp x.to)) z=true:=by
 refine⟨jcm sp x.to x,f0o.2 ⟨x,by simp,rfl⟩,jhx.2 (fun y' hy'=>?_)⟩
 have et:(jcm sp x.to x).to=x.to:=by unfold jcm;split<;>rfl
 rw[et]
 obtain⟨y,hy,rfl⟩:=f0o.1 hy'
 unfold jcm
 split
 .exact fun e=>(k.nsp x (by simp)).1 e.symm
 .assumption
def jzb (left:List Mo):Nat:=2*left.length+(if left.any (je4 left)=true then 0 else 1)
theorem j9w {F:Fns} (J:JoF F) {p mb:Nat} {m:Nat×Nat} {fr:Nat} {cls:List (Pl×Nat)} {L:List Mo} (hLn:(L.map (·.to)).Nodup) (hL:L.length<=100) {Q:Ex->St->Prop}
 (hQ:∀ h' lv' ov' b' bo' out y1 y2 y3 y4 y5 y6 y7 y8 y9 y10 y11 y12 y13 y14 y15 y16 y17 y18 y19,JS h' p mb m fr cls [] out lv' ov' b' bo'->DoI (scr m) ⟨2,0,fr⟩ L [] out->DV m fr cls [] out->Q (.exit 0) (.mk [.s (.ptr p 0),y1,y2,y3,y4,y5,y6,y7,y8,y9,y10,y11,y12,y13,y14,y15,y16,y17,y18,y19] h')) :
 ∀ (n:Nat) {h:Hp} {left out:List Mo} {lv ov:SV} {b bo:Nat} (_:jzb left<=n) (_:JS h p mb m fr cls left out lv ov b bo) (_:DoI (scr m) ⟨2,0,fr⟩ L left out) (_:DV m fr cls left out) (_:left.length<=L.length) {x1 x2 x3 x4 x5 x6 x7 x8 x9 x10 x11 x12 x13 x14 x15 x16 x17 x18 x19:AV},
  W F jrh.loop (.mk [.s (.ptr p 0),x1,x2,x3,x4,x5,x6,x7,x8,x9,x10,x11,x12,x13,x14,x15,x16,x17,x18,x19] h) Q:=by
 intro n
 induction n using Nat.strongRecOn with
 | ind n ih =>
 intro h left out lv ov b bo hn k d v hll x1 x2 x3 x4 x5 x6 x7 x8 x9 x10 x11 x12 x13 x14 x15 x16 x17 x18 x19
 have xp:=k.xp
 have ll:=k.ol.len
 have ok:=k.ok
 unfold JC at xp
 rw[jbg]
 unfold jrh
 by_cases hne:left=[]
 .subst hne
  simp(disch:=first|omega|rfl) only[go_sem,xp,ll,f03]
  exact hQ h lv ov b bo out _ _ _ _ _ _ _ _ _ _ _ _ _ _ _ _ _ _ _ k d v
 .have hp:0<left.length:=List.length_pos_iff.2 hne
  have c1:((left.length:Int)>0)=True:=eq_true (by omega)
  have c1':((0:Int)<(left.length:Int))=True:=eq_true (by omega)
  have dl:=d.len
  have hsc:∀ c,(⟨2,0,fr⟩:Pl)≠scr m c:=fun c e=>by
   have:(2:Nat)=1:=congrArg Pl.k e
   omega
  simp(disch:=first|omega|rfl) only[go_sem,xp,ll,c1,c1']
  refine j30 J k v.cls hne (by omega) (by rcases dl with h | ⟨h,_⟩<;>omega) (fun A B y c h' lv' ov' b' bo' _ _ _ _ _ _ _ _ _ _ _ _ _ _ _ _ _ _ _ e hf hc2 k'=>?_) (fun x r c h' lv' ov' b' bo' _ _ _ _ _ _ _ _ _ _ _ _ _ _ _ _ _ _ _ e hno hc2 k'=>?_)
  .subst e
   have hm:jzb (A++B)<jzb (A++y::B):=by
    unfold jzb
    have h1:(A++y::B).length=(A++B).length+1:=by simp;omega
    have h2:(if (A++B).any (je4 (A++B))=true then 0 else 1)<=1:=by split<;>omega
    omega
   have d':=d.free (c:=c) hLn hf
   have hs:∀ z∈A++B,z∈A++y::B:=fun z hz=>by
    rcases f1t.1 hz with h | h
    .exact List.mem_append_left _ h
    .exact f2e _ (f0p _ h)
   have hy:=v.le y (by simp)
   simp(disch:=first|omega|rfl) only[go_sem]
   refine ih (jzb (A++B)) (by omega) (f0b _) k' d' ⟨fun z hz=>v.cls z (hs z hz),fun z hz=>v.le z (hs z hz),fun z hz=>?_⟩ (by simp at hll ⊢;omega)
   rcases f1t.1 hz with h | h
   .exact v.out z h
   .exact jy0 hc2 hy.1 hy.2.up z h
  .subst e
   have d':DoI (scr m) ⟨2,0,fr⟩ L ((x::r).map (jcm ⟨2,0,fr⟩ x.to)) (out++jmg (scr m) x.to ⟨2,0,fr⟩ c):=d.turn (c:=c) hsc hno
   have hm:jzb ((x::r).map (jcm ⟨2,0,fr⟩ x.to))<jzb (x::r):=by
    have h1:((x::r).map (jcm ⟨2,0,fr⟩ x.to)).any (je4 ((x::r).map (jcm ⟨2,0,fr⟩ x.to)))=true:=by
     obtain⟨z,hz,hz2⟩:=jy1 d
     exact List.any_eq_true.2 ⟨z,hz,hz2⟩
    have h2:(x::r).any (je4 (x::r))=false:=List.any_eq_false.2 (fun z hz=>by rw[hno z hz];simp)
    unfold jzb
    rw[h1,h2,f05];simp
   have hx:=v.le x (by simp)
   simp(disch:=first|omega|rfl) only[go_sem]
   refine ih (jzb ((x::r).map (jcm ⟨2,0,fr⟩ x.to))) (by omega) (f0b _) k' d' ⟨fun z hz=>?_,fun z hz=>?_,fun z hz=>?_⟩ (by simpa using hll)
   .obtain ⟨w,hw,rfl⟩:=f0o.1 hz
    have:(jcm ⟨2,0,fr⟩ x.to w).to=w.to:=by unfold jcm;split<;>rfl
    rw[this];exact v.cls w hw
   .obtain ⟨w,hw,rfl⟩:=f0o.1 hz
    have hw2:=v.le w hw
    unfold jcm
    split
    .exact ⟨.inl ⟨rfl,rfl,Nat.lt_succ_self fr⟩,hw2.2⟩
    .exact hw2
   .rcases f1t.1 hz with h | h
    .exact v.out z h
    .exact jy0 hc2 hx.2.up (.inl ⟨rfl,rfl,Nat.lt_succ_self fr⟩) z h
end Go.Proofs.Ytmcfkgjjnhlkiaa.Ev
