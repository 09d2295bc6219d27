/- Order: the moves are looked at, then done. -/
import Derived.Test.YtmcfkgjjnhlkiaaYi
namespace Go.Proofs.Ytmcfkgjjnhlkiaa.Ev
open Go Go.RowKit Go.Proofs.Ytmcfkgjjnhlkiaa.Ms
attribute [local go_sem] Int.reduceToNat reduceCtorEq Nat.reduceAdd Nat.reduceMul Nat.reduceEqDiff Int.reduceEq Int.reduceLT Int.reduceLE Int.reduceNeg Int.reduceAdd Int.reduceSub Int.reduceMul Int.reduceNe
attribute [local go_sem ↓] reduceIte
set_option linter.all false
set_option maxRecDepth 100000
set_option maxHeartbeats 4000000
variable {fr size:Nat} {m:Nat×Nat} {C X:SV}
noncomputable def j31 (n size:Nat) (agg:Bool) (x i:Option AV):Option AV:=ob x (fun v=>ob i (fun w=>AV.casesOn (motive:=fun _=>Option AV) v (fun _=>none) (fun cs=>jfn w n (fun m=>ob (ja5 size (jbh (Nat.mul m size) cs)) (fun cs=>jcv agg cs))) (fun _=>none) none none))
theorem jy2 {st fr:List AV} {n:Nat} {agg:Bool} {x i:Od}:pop st fr (.ival n size agg x i)=j31 n size agg (ev st fr x) (ev st fr i):=rfl
theorem j32 {a b:SV}:j31 2 1 false (some (.agg [a,b])) (some (vi 0))=some (.s a):=rfl
theorem j33 {a b:SV}:j31 2 1 false (some (.agg [a,b])) (some (vi 1))=some (.s b):=rfl
theorem j54 {a b c a' b' c':Nat}:j5y true true [false,false,false] (some (.agg [si a,si b,si c])) (some (.agg [si a',si b',si c']))=some (vb (!(decide (a=a'/\b=b'/\c=c')))):=by
 have h:=j0h (a:=a) (b:=b) (c:=c) (a':=a') (b':=b') (c':=c')
 have h2:j5y false true [false,false,false] (some (.agg [si a,si b,si c])) (some (.agg [si a',si b',si c']))=ob (jah [false,false,false] [si a,si b,si c] [si a',si b',si c']) (fun e=>some (AV.s (SV.bool e))):=rfl
 rw[h2] at h
 obtain⟨e,h3,h4⟩:=jaa.1 h
 have h5:e=decide (a=a'/\b=b'/\c=c'):=by
  have:=Option.some.inj h4
  injection this with this
  injection this
 show ob (jah [false,false,false] [si a,si b,si c] [si a',si b',si c']) (fun e=>some (AV.s (SV.bool (jdv e))))=_
 rw[h3,h5]
 cases decide (a=a'/\b=b'/\c=c')<;>rfl
structure LsE {α:Type} (enc:α->List SV) (size:Nat) (x:SV) (l:List α):Prop where
 len:jza (.s x)=some (vi l.length)
 at_:∀ {i:Nat} {a:α},l[i]?=some a->ju2 size (.s x) (vi (i:Int))=some (.s (.cp (enc a)))
 grd:grd x=true
theorem LsE.enc {α:Type} {enc:α->List SV} {l:List α} (hs:∀ a,(enc a).length=size):LsE enc size (jij enc l) l:=⟨jyq,fun h=>jyr h (hs _),joz⟩
structure ZOk (m:Nat×Nat) (fr:Nat) (Z:List (Mo×Nat)):Prop where
 m1:2<=m.1/\m.1<=10
 m2:2<=m.2/\m.2<=10
 hf:fr<=100
 len:Z.length<=100
 e:∀ z∈Z,z.2<2/\jcc m z.1.fr fr/\jcc m z.1.to fr/\(z.1.fr.k=1->z.1.fr.c=z.2)/\(z.1.to.k=1->z.1.to.c=z.2)
 nd:(Z.map (fun z=>z.1.to)).Nodup
def jtz (Z:List (Mo×Nat)):List (Pl×Nat):=Z.map (fun z=>(z.1.to,z.2))
def jhz (Z:List (Mo×Nat)):List Mo:=(Z.map (·.1)).filter (fun x=>decide (x.fr≠x.to))
theorem jqi {Z:List (Mo×Nat)} {z:Mo×Nat}:jhz (Z++[z])=jhz Z++if z.1.fr≠z.1.to then [z.1] else []:=by
 unfold jhz
 rw[f1h,List.filter_append]
 congr 1
 by_cases h:z.1.fr=z.1.to
 .rw [if_neg (by simpa using h)];simp[h]
 .rw [if_pos h];simp[h]
theorem jqj (Z:List (Mo×Nat)):(jhz Z).length<=Z.length:=by
 unfold jhz
 exact f07 (List.length_filter_le _ _) (by simp)
theorem j55 {Z:List (Mo×Nat)} (zk:ZOk m fr Z) (lX:LsE jad 6 X (Z.map (·.1))) (lC:LsE jqo 1 C (Z.map (·.2))) {p mb q n0:Nat} (p1:1<=p) (m1':1<=mb) (hpm:p≠mb) (lp:p<n0) (lm:mb<n0) (lq:q<n0) (hqp:q≠p) (hqm:q≠mb) (hq1:1<=q) {x0 x4 x5 x20 x21 x22 x23 x24 x25 x26:AV} {Q:Ex->St->Prop} :
 ∀ (d i:Nat) (_:i+d=Z.length) {h:Hp} {lv:SV} {b:Nat} (_:Ok h) (_:n0<=h.next) (_:h.get q=some (.arr [si m.1,si m.2] 25)) (_:h.get p=some (.arr (JC m lv (.map mb) fr .nilSlice) 51)) (_:h.get mb=some (.map false (esK jbm (jtz (Z.take i)))))
  (_:OL 39 6 jad h lv (jhz (Z.take i)) b) (_:b=0∨n0<=b) {x6 x7 x8 x10 x11 x12 x13 x14 x15 x17:AV}
  (hQ:∀ h' lv b x6 x7 x8 x10 x11 x12 x13 x14 x15 x17,Ok h'->n0<=h'.next->h'.get p=some (.arr (JC m lv (.map mb) fr .nilSlice) 51)->h'.get mb=some (.map false (esK jbm (jtz Z)))->OL 39 6 jad h' lv (jhz Z) b->(b=0∨n0<=b)->Q (.exit 2) (.mk [x0,.s X,.s C,vi (fr:Int),x4,x5,x6,x7,x8,.s (.ptr p 0),x10,x11,x12,x13,x14,x15,.s X,x17,vi Z.length,vi Z.length,x20,x21,x22,x23,x24,x25,x26,.s (.ptr q 0)] h')),
  W G2 jj7.loop (.mk [x0,.s X,.s C,vi (fr:Int),x4,x5,x6,x7,x8,.s (.ptr p 0),x10,x11,x12,x13,x14,x15,.s X,x17,vi Z.length,vi i,x20,x21,x22,x23,x24,x25,x26,.s (.ptr q 0)] h) Q
 | 0,i,hd,h,lv,b,ok,hn,xq,xp,xm,ol,hb,x6,x7,x8,x10,x11,x12,x13,x14,x15,x17,hQ=>by
  obtain rfl:i=Z.length:=by omega
  rw[f0s (f0b _)] at xm ol
  rw[jbg]
  unfold jj7
  simp(disch:=first|omega|rfl) only[go_sem,f1r]
  exact hQ h lv b _ _ _ _ _ _ _ _ _ _ ok hn xp xm ol hb
 | d+1,i,hd,h,lv,b,ok,hn,xq,xp,xm,ol,hb,x6,x7,x8,x10,x11,x12,x13,x14,x15,x17,hQ=>by
  have hil:i<Z.length:=by omega
  have hlt:(i:Int)<(Z.length:Int):=by omega
  have hs:(i:Int)+1=((i+1:Nat):Int):=by omega
  obtain⟨⟨y,c⟩,hu⟩:∃ u,Z[i]?=some u:=⟨_,f0g hil⟩
  have hzl:=zk.len
  have ix:=lX.at_ (i:=i) (a:=y) (by rw[f1c,hu];rfl)
  have iy:=lC.at_ (i:=i) (a:=c) (by rw[f1c,hu];rfl)
  obtain⟨hc2,e1,e2,k1,k2⟩:=zk.e _ (f0t hu)
  have hc2:c<2:=hc2
  have et:Z.take (i+1)=Z.take i++[(y,c)]:=by
   rw[f0z hil,(f0e.1 hu).2]
  have hno:jaz (jtz (Z.take i)) y.to=none:=by
   rw[jhy]
   intro hm
   have hnd:=zk.nd
   rw[←List.take_append_drop i Z,f1h,List.nodup_append] at hnd
   refine hnd.2.2 y.to ?_ y.to ?_ rfl
   .unfold jtz at hm
    rw[List.map_map] at hm
    exact hm
   .refine f0o.2 ⟨(y,c),?_,rfl⟩
    rw[f0v hil,(f0e.1 hu).2];simp
  have ecl:jo4 (jtz (Z.take i)) y.to c=jtz (Z.take (i+1)):=by
   rw[jqf _ _ _ hno,et];unfold jtz;rw[f1h];rfl
  obtain⟨hA,eA,okA,nA,xA,gA⟩:=jsq ok [.int .i64 0,.int .i64 0,.int .i64 0,.int .i64 0,.int .i64 0,.int .i64 0] (jad y) 39
  have yq:=(gA q (by omega)).trans xq
  have yp:=(gA p (by omega)).trans xp
  have ym:=(gA mb (by omega)).trans xm
  have lb:=ol.lt ok
  have olA:=ol.keep (h1:=hA) (by omega) (fun _ h2=>gA _ h2)
  have ce1:∀ Q h,WC G2 12 [.agg [si m.1,si m.2],.agg [si y.fr.k,si y.fr.c,si y.fr.n],vi fr] h Q=Q (vb true) h:=fun Q h=>jtu zk.m1 zk.m2 zk.hf e1
  have ce2:∀ Q h,WC G2 12 [.agg [si m.1,si m.2],.agg [si y.to.k,si y.to.c,si y.to.n],vi fr] h Q=Q (vb true) h:=fun Q h=>jtu zk.m1 zk.m2 zk.hf e2
  have c1:((c:Int)<0)=False:=eq_false (by omega)
  have c2:((2:Int)<=(c:Int))=False:=eq_false (by omega)
  have lA:=jyx (okf:=true) (k:=y.to) ym
  rw[hno] at lA
  obtain⟨hB,eB,okB,nB,xB,gB⟩:=ju4 okA m1' (some (.map false (esK jbm (jtz (Z.take (i+1))))))
  have uA:=j8o (k:=y.to) (v:=c) ym
  rw[ecl,eB] at uA
  have zA:=(gB h.next (by omega)).trans xA
  have zp:=(gB p hpm).trans yp
  have zq:=(gB q hqm).trans yq
  have olB:=olA.keep (h1:=hB) (by omega) (fun h1 h2=>gB _ (by omega))
  unfold jad at eA xA zA ix
  unfold jqo at iy
  unfold JC at yp zp
  have fin:∀ (h':Hp) (lv':SV) (b':Nat) (x6 x10:AV),Ok h'->n0<=h'.next->h'.get q=some (.arr [si m.1,si m.2] 25)->h'.get p=some (.arr (JC m lv' (.map mb) fr .nilSlice) 51)->h'.get mb=some (.map false (esK jbm (jtz (Z.take (i+1))))) ->
   OL 39 6 jad h' lv' (jhz (Z.take (i+1))) b'->(b'=0∨n0<=b')->W G2 jj7.loop (.mk [x0,.s X,.s C,vi (fr:Int),x4,x5,x6,vb false,vb false,.s (.ptr p 0),x10,vb false,.s (.ptr h.next 0),vb false,vi (c:Int),vi (i:Int),.s X,vb true,vi Z.length,vi ((i+1:Nat):Int),x20,x21,x22,x23,x24,x25,x26,.s (.ptr q 0)] h') Q:=fun h' lv' b' x6 x10 q1 q2 q3 q4 q5 q6 q7=>j55 zk lX lC p1 m1' hpm lp lm lq hqp hqm hq1 d (i+1) (by omega) q1 q2 q3 q4 q5 q6 q7 hQ
  rw[jbg]
  unfold jj7 jw7
  have A1:(((y.fr.k:Int)=1)=True/\((y.fr.c:Int)≠(c:Int))=False)∨(((y.fr.k:Int)=1)=False/\((c:Int)<0)=False):=by
   by_cases d1:y.fr.k=1
   .exact .inl ⟨eq_true (by omega),eq_false (fun h2=>h2 (by have:=k1 d1;simp only at this;omega))⟩
   .exact .inr ⟨eq_false (by omega),c1⟩
  have A2:(((y.to.k:Int)=1)=True/\((y.to.c:Int)≠(c:Int))=False)∨(((y.to.k:Int)=1)=False/\((c:Int)<0)=False):=by
   by_cases d1:y.to.k=1
   .exact .inl ⟨eq_true (by omega),eq_false (fun h2=>h2 (by have:=k2 d1;simp only at this;omega))⟩
   .exact .inr ⟨eq_false (by omega),c1⟩
  have key:W G2 jri (.mk [x0,.s X,.s C,vi (fr:Int),x4,x5,x6,vb false,vb false,.s (.ptr p 0),vb false,vb false,.s (.ptr h.next 0),vb false,vi (c:Int),vi (i:Int),.s X,vb true,vi Z.length,vi (i:Int),x20,x21,x22,x23,x24,x25,x26,.s (.ptr q 0)] hA)
   (fun e s=>e=.normal/\∃ h' lv' b' x6,s=.mk [x0,.s X,.s C,vi (fr:Int),x4,x5,x6,vb false,vb false,.s (.ptr p 0),vb false,vb false,.s (.ptr h.next 0),vb false,vi (c:Int),vi (i:Int),.s X,vb true,vi Z.length,vi (i:Int),x20,x21,x22,x23,x24,x25,x26,.s (.ptr q 0)] h'/\Ok h'/\n0<=h'.next/\h'.get q=some (.arr [si m.1,si m.2] 25)/\h'.get p=some (.arr (JC m lv' (.map mb) fr .nilSlice) 51)/\h'.get mb=some (.map false (esK jbm (jtz (Z.take (i+1)))))/\OL 39 6 jad h' lv' (jhz (Z.take (i+1))) b'/\(b'=0∨n0<=b')):=by
   unfold jri
   have ll:=jqj (Z.take i)
   rw[f1o,Nat.min_eq_left (Nat.le_of_lt hil)] at ll
   by_cases he:y.fr.k=y.to.k/\y.fr.c=y.to.c/\y.fr.n=y.to.n
   .simp (disch:=first|omega|rfl) only[go_sem,yp,xA,jlc,uA,zA,jgo,j54,eq_true he]
    refine⟨hB,lv,b,_,rfl,okB,by omega,zq,zp,xB,?_,hb⟩
    rw[et,jqi,if_neg (fun h=>h (Pl.eq_iff.2 he)),f1n]
    exact olB
   .obtain ⟨lv',hC,eC,okC,nC,gC,olC⟩:=olB.app jaj okB (cs:=[y]) (by simp) (bytes:=48) (by simp;omega) (by simp;omega)
    simp only[f01,f2h,f1n,f0u,f03,f0l] at eC
    unfold jad at eC
    have nB2:hB.next=h.next+1:=by omega
    rw[nB2] at eC
    have wp:=(gC p (by omega) (by omega)).trans zp
    obtain⟨hD,eD,okD,nD,xD,gD⟩:=ju4 okC p1 (some (.arr [si m.1,si m.2,lv',.map mb,si 2,si 0,si fr,.nilSlice] 51))
    simp(disch:=first|omega|rfl) only[go_sem,yp,xA,jlc,uA,zA,jgo,j54,eq_false he,zp,nB2,eC,wp,eD]
    refine⟨hD,lv',hB.next+1,_,rfl,okD,by omega,(gD q hqp).trans ((gC q (by omega) (by omega)).trans zq),xD,(gD mb hpm.symm).trans ((gC mb (by omega) (by omega)).trans xB),?_,by omega⟩
    rw[et,jqi,if_pos (fun h=>he (Pl.eq_iff.1 h))]
    exact olC.keep (by omega) (fun _ h2=>gD _ (by omega))
  rcases A1 with⟨D1,D2⟩ | ⟨D1,D2⟩<;>rcases A2 with⟨D3,D4⟩ | ⟨D3,D4⟩ <;>
   (simp(disch:=first|omega|rfl) only[go_sem,jak,eq_true hlt,ix,iy,eA,xA,yq,ce1,ce2,c1,c2,D1,D2,D3,D4,yp,jd6,lA,je5,f2i,f2b]
    unfold jw6
    simp(disch:=first|omega|rfl) only[go_sem,yp,xA,jd6,lA,je5,f2i,f2b]
    refine W.imp key ?_
    rintro _ _ ⟨rfl,h',lv',b',x6',rfl,q1,q2,q3,q4,q5,q6,q7⟩
    simp(disch:=first|omega|rfl) only[go_sem,jak,hs]
    exact fin h' lv' b' _ _ q1 q2 q3 q4 q5 q6 q7)
theorem jy3 {h:Hp} {k:Bool} {d:Nat}:∀ {l:List SV},(∀ x∈l,∃ n:Int,x=si n)->jl8 (jih k h (d+1)) l=some l
 | [],_=>rfl
 | a::l,hl=>by
  obtain⟨n,rfl⟩:=hl a (by simp)
  exact jys rfl (jy3 (fun x hx=>hl x (f0p _ hx)))
theorem OL.frz {α:Type} {ty sz:Nat} {enc:α->List SV} {h:Hp} {x:SV} {l:List α} {b:Nat} (k:OL ty sz enc h x l b) (hs:∀ a,(enc a).length=sz) (hn:∀ a,∀ x∈enc a,∃ n:Int,x=si n) {kk:Bool}:jih kk h 2 x=some (jij enc l):=by
 rcases k with⟨rfl,rfl,_⟩ | ⟨hne,rfl,_,_,hg⟩
 .rfl
 .obtain ⟨a,r,rfl⟩:∃ a r,l=a::r:=by cases l with
   | nil=>exact absurd rfl hne
   | cons a r=>exact⟨a,r,rfl⟩
  have fl:=jbk hs (a::r)
  refine jaa.2 ⟨(a::r).flatMap enc,?_,jaa.2 ⟨(a::r).flatMap enc,jy3 (h:=h) (k:=kk) (d:=0) (fun x hx=>?_),jaa.2 ⟨(a::r).map enc,?_,rfl⟩⟩⟩
  .show rdB (h.get b) 0 ((r.length+1)*sz)=_
   rw[hg]
   show ja5 ((r.length+1)*sz) ((a::r).flatMap enc)=_
   refine(jap _).2 ⟨f2l fl.symm,?_⟩
   rw[show(r.length+1)*sz=((a::r).flatMap enc).length from fl.symm,List.take_length]
  .obtain ⟨c,_,hc⟩:=List.mem_flatMap.1 hx
   exact hn c x hc
  .have:=jfl (sz:=sz) (L:=(a::r).map enc) (fun x hx=>by
    obtain⟨b,_,rfl⟩:=f0o.1 hx
    exact hs b)
   rw[f05] at this
   rw[List.flatMap_def]
   exact this
theorem jt0 (x:Mo):∀ y∈jad x,∃ n:Int,y=si n:=fun y hy=>by
 simp only[jad,f0m,List.not_mem_nil,or_false] at hy
 rcases hy with rfl | rfl | rfl | rfl | rfl | rfl<;>exact⟨_,rfl⟩
theorem j34 (x:Nat):∀ y∈jqo x,∃ n:Int,y=si n:=fun y hy=>by
 simp only[jqo,f0m,List.not_mem_nil,or_false] at hy
 rcases hy with rfl;exact⟨_,rfl⟩
theorem j9x:JoF G2 where
 X f hf vs h:=by
  simp only[f0m,List.not_mem_nil,or_false] at hf
  rcases hf with rfl | rfl | rfl | rfl | rfl | rfl | rfl | rfl | rfl | rfl<;>exact j6l rfl rfl
 T f:=rfl
theorem j56 {F:Fns} (J:JoF F) {h:Hp} {p mb:Nat} {cls:List (Pl×Nat)} {L left:List Mo} {lv ov:SV} {b bo:Nat} (hLn:(L.map (·.to)).Nodup) (hL:L.length<=100) (k:JS h p mb m fr cls left [] lv ov b bo) (d:DoI (scr m) ⟨2,0,fr⟩ L left []) (v:DV m fr cls left []) (hll:left.length<=L.length) :
 WC F 13 [.s (.ptr p 0)] h (fun v h'=>v=.tup []/\∃ lv ov b bo out,JS h' p mb m fr cls [] out lv ov b bo/\DoI (scr m) ⟨2,0,fr⟩ L [] out/\DV m fr cls [] out):=by
 refine jbz (J.X _ (by simp) _ _) ((J.T _).trans j7q) rfl ?_
 unfold j1h
 simp(disch:=first|omega|rfl) only[go_sem]
 refine j9w J hLn hL (fun h' lv' ov' b' bo' out _ _ _ _ _ _ _ _ _ _ _ _ _ _ _ _ _ _ _ k' d' v'=>?_) (jzb left) (f0b _) k d v hll
 simp(disch:=first|omega|rfl) only[go_sem]
 exact⟨lv',ov',b',bo',out,k',d',v'⟩
theorem jcc.nsc {p:Pl} (h:jcc m p fr) (c:Nat):p≠scr m c:=by
 rintro rfl
 rcases h with⟨h1,_⟩ | ⟨_,_,h3⟩
 .exact absurd h1 (by show(1:Nat)≠2;omega)
 .exact Nat.lt_irrefl _ h3
theorem jcc.nsp {p:Pl} (h:jcc m p fr):p≠⟨2,0,fr⟩:=by
 rintro rfl
 rcases h with⟨_,_,h3⟩ | ⟨h1,_⟩
 .exact Nat.lt_irrefl _ h3
 .exact absurd h1 (by show(2:Nat)≠1;omega)
structure OrdP (m:Nat×Nat) (fr:Nat) (L out:List Mo):Prop where
 to:∀ x∈L,jdi id out x.to=x.fr
 rest:∀ p,(∀ c,p≠scr m c)->p≠⟨2,0,fr⟩->p∉L.map (·.to)->jdi id out p=p
 len:out.length<=4*L.length
 ok:∀ x∈out,jyz m fr x
def j57 (out:List Mo):AV:=.tup [(false,[jij jad out]),(false,[si 0])]
theorem jy4 {Z:List (Mo×Nat)} (zk:ZOk m fr Z) (lX:LsE jad 6 X (Z.map (·.1))) (lC:LsE jqo 1 C (Z.map (·.2))) {h:Hp} (ok:Ok h) :
 WC G2 7 [.agg [si m.1,si m.2],.s X,.s C,vi fr] h (fun v h'=>∃ out,OrdP m fr (Z.map (·.1)) out/\∀ kk,∃ d,jo7 kk h' d v=some (j57 out)):=by
 refine jbz (j6l rfl rfl) j7r rfl ?_
 unfold j1i
 have hp:=ok.pos
 have m1:=zk.m1
 have m2:=zk.m2
 have hf:=zk.hf
 have hz:=zk.len
 have l1:=lX.len
 have l2:=lC.len
 rw[f05] at l1 l2
 have a1:((m.1:Int)<2)=False:=eq_false (by omega)
 have a2:((10:Int)<(m.1:Int))=False:=eq_false (by omega)
 have a3:((m.2:Int)<2)=False:=eq_false (by omega)
 have a4:((10:Int)<(m.2:Int))=False:=eq_false (by omega)
 have a5:((fr:Int)<0)=False:=eq_false (by omega)
 have a6:((1000:Int)<=(fr:Int))=False:=eq_false (by omega)
 have a7:((5000:Int)<(Z.length:Int))=False:=eq_false (by omega)
 have a8:((Z.length:Int)≠(Z.length:Int))=False:=eq_false (fun h=>h rfl)
 obtain⟨hA,eA,okA,nA,xA,gA⟩:=jqp ok [si m.1,si m.2] 25
 obtain⟨hB,eB,okB,nB,xB,gB⟩:=j6m okA (.map false [])
 obtain⟨hC,eC,okC,nC,xC,gC⟩:=jqp okB [si m.1,si m.2,.nilSlice,.map (h.next+1),si 2,si 0,si fr,.nilSlice] 51
 have nA2:=nA
 have nB2:hB.next=h.next+2:=by omega
 simp(disch:=first|omega|rfl) only[go_sem,eA,nA2,xA]
 rw[jbg]
 unfold jw5 jw4
 simp(disch:=first|omega|rfl) only[go_sem,jak,jy2,j32,a1,a2]
 rw[jbg]
 simp(disch:=first|omega|rfl) only[go_sem,jak,jy2,j33,a3,a4]
 rw[jbg]
 simp(disch:=first|omega|rfl) only[go_sem,jak,a5,a6,a7,l1,f1r]
 unfold jw9
 simp(disch:=first|omega|rfl) only[go_sem,l1,l2,a8,ne_eq,not_true_eq_false]
 unfold jw8
 simp(disch:=first|omega|rfl) only[go_sem,xA,jo5,nA2,eB,nB2,eC,l1]
 refine j55 zk lX lC (p:=h.next+2) (mb:=h.next+1) (q:=h.next) (n0:=h.next+3) (by omega) (by omega) (by omega) (by omega) (by omega) (by omega) (by omega) (by omega) (by omega) Z.length 0 (by omega) okC (by omega) ((gC _ (by omega)).trans ((gB _ (by omega)).trans xA)) (by rw[nB2] at xC;exact xC) (by rw[nA2] at xB;exact(gC _ (by omega)).trans xB) (lv:=.nilSlice) (b:=0) (.inl ⟨rfl,rfl,rfl⟩) (.inl rfl) (fun h' lv b x6 x7 x8 x10 x11 x12 x13 x14 x15 x17 okL nL xp xm ol hb=>?_)
 have hZn:((Z.map (·.1)).map (·.to)).Nodup:=by rw[List.map_map];exact zk.nd
 have he:∀ x∈Z.map (·.1),jcc m x.fr fr/\jcc m x.to fr:=fun x hx=>by
  obtain⟨z,hz,rfl⟩:=f0o.1 hx
  exact⟨(zk.e z hz).2.1,(zk.e z hz).2.2.1⟩
 have lb:=ol.lt okL
 have lf:∀ y∈jhz Z,y∈Z.map (·.1):=fun y hy=>(f2d.1 hy).1
 have js:JS h' (h.next+2) (h.next+1) m fr (jtz Z) (jhz Z) [] lv .nilSlice b 0:=⟨okL,xp,xm,ol.toX,.nil,by omega,by omega,by omega,by omega,by omega,by omega,by omega,by omega,by omega,fun h=>by omega⟩
 have d0:DoI (scr m) ⟨2,0,fr⟩ (Z.map (·.1)) (jhz Z) []:=DoI.start hZn (fun x hx c=>⟨(he x hx).2.nsc c,(he x hx).1.nsc c⟩) (fun x hx=>(he x hx).2.nsp)
 have v0:DV m fr (jtz Z) (jhz Z) []:=by
  refine⟨fun y hy=>?_,fun y hy=>⟨(he y (lf y hy)).1.up,(he y (lf y hy)).2⟩,fun x hx=>by simp at hx⟩
  obtain⟨z,hz,rfl⟩:=f0o.1 (lf y hy)
  cases hc:jaz (jtz Z) z.1.to with
  | none =>
   rw[jhy] at hc
   exact absurd (by unfold jtz;rw[List.map_map];exact f0o.2 ⟨z,hz,rfl⟩) hc
  | some c =>
   have hm:=jqg _ _ _ hc
   obtain⟨w,hw,e⟩:=f0o.1 hm
   have:w.2=c:=congrArg Prod.snd e
   exact⟨c,by rw[←this];exact(zk.e w hw).1,rfl⟩
 simp(disch:=first|omega|rfl) only[go_sem]
 refine WC.imp (j56 j9x hZn (by simpa using hz) js d0 v0 (by rw[f05];exact jqj Z)) ?_
 rintro _ h2 ⟨rfl,lv2,ov2,b2,bo2,out,k2,d2,v2⟩
 have xp2:=k2.xp
 have ok2:=k2.ok
 unfold JC at xp2
 simp(disch:=first|omega|rfl) only[go_sem,xp2]
 obtain⟨f1,f2,f3⟩:=d2.finish
 refine⟨out,⟨f1,f2,f3,v2.out⟩,fun kk=>⟨2,?_⟩⟩
 show ob (jv5 (jih kk h2 2) [(false,[ov2]),(false,[si 0])]) (fun y=>some (AV.tup y))=_
 have e1:=k2.oo.frz jaj jt0 (kk:=kk)
 have e2:jv5 (jih kk h2 2) [(false,[ov2]),(false,[si 0])]=some [(false,[jij jad out]),(false,[si 0])]:=jaa.2 ⟨_,jo0 e1,jaa.2 ⟨_,rfl,rfl⟩⟩
 rw[e2]
 rfl
end Go.Proofs.Ytmcfkgjjnhlkiaa.Ev
