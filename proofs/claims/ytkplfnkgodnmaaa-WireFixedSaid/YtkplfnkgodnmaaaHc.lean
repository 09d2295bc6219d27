/- A reader of bytes: a block as it grows. -/
import Derived.Test.YtkplfnkgodnmaaaFo
namespace Go.Proofs.Ytkplfnkgodnmaaa.Ev
open Go Go.RowKit Go.Proofs.Ytkplfnkgodnmaaa.Ms
set_option linter.all false
set_option maxRecDepth 100000
set_option maxHeartbeats 4000000
variable {l:List Nat} {cells:List SV} {g:Nat}
structure BlS (lo p bb bx q3:Nat) (h:Hp) (ps:List Nat) (is:List Ms.Ins) (es:List Ms.Edg) (r:Rd):Prop where
 rd:RdS h p bb r
 c3:h.get q3=some (.arr [.ptr p 0] 55)
 ex:∃ a b c n1 n2 n3,h.get bx=some (.arr [a,b,c] 54)/\Sl h 3 1 false EI a ps n1/\Sl h 73 3 false (OX h) b is n2/\Sl h 76 2 false (OE h) c es n3/\(n1++(n2++n3)).Nodup/\∀ n∈n1++(n2++n3),lo<=n/\n<h.next/\n≠bx/\n≠q3
 ne:lo<=bx/\bx<h.next/\q3≠p/\q3<h.next/\q3≠bx/\bb<lo/\p<lo/\1<=lo
section
variable {lo p bb bx q3:Nat} {h h':Hp} {ps:List Nat} {is:List Ms.Ins} {es:List Ms.Edg} {r r':Rd}
theorem BlS.mv (k:BlS lo p bb bx q3 h ps is es r) (k':RdS h' p bb r') (hn:h.next<=h'.next) (hk:∀ n,n<h.next->n≠p->h'.get n=h.get n):BlS lo p bb bx q3 h' ps is es r':=by
 obtain⟨a,b,c,n1,n2,n3,h1,h2,h3,h4,h5,h6⟩:=k.ex
 obtain⟨e1,e2,e3,e4,e5,e6,e7,e8⟩:=k.ne
 have kk:∀ n∈n1++(n2++n3),h'.get n=h.get n:=fun n hn=>hk n (h6 n hn).2.1 (by have:=(h6 n hn).1;omega)
 exact⟨k',(hk q3 e4 (by omega)).trans k.c3,⟨a,b,c,n1,n2,n3,(hk bx e2 (by omega)).trans h1,h2.keep (fun n hn=>kk n (by simp[hn])),h3.imp (fun n hn=>kk n (by simp[hn])) (fun row a m hm e=>e.keep (fun n hn=>kk n (by simp[hm n hn]))),h4.imp (fun n hn=>kk n (by simp[hn])) (fun row a m hm e=>e.keep (fun n hn=>kk n (by simp[hm n hn]))),h5,fun n hn=>by have:=h6 n hn;omega⟩,⟨e1,by omega,e3,by omega,e5,e6,e7,e8⟩⟩
theorem BlS.sm (k:BlS lo p bb bx q3 h ps is es r) (k':RdS h' p bb r') (m:Mv h h' [p] [p]):BlS lo p bb bx q3 h' ps is es r':=k.mv k' m.nx (fun n hn hne=>m.keep n hn (by simpa using hne))
variable {hi:Hp}
theorem BlS.ins (k:BlS lo p bb bx q3 hi ps is es r) (k':RdS h p bb r') (hn:hi.next<=h.next) (hk:∀ n,n<hi.next->n≠p->h.get n=hi.get n) (hl:is.length<=1000) {row:List SV} {x:Ms.Ins} {ms:List Nat} (hr:row.length=3) (hx:OX h row x ms) (hm:ms.Nodup) (hms:∀ n∈ms,hi.next<=n/\n<h.next) :
 ∃ a b c b' hM hN,h.get bx=some (.arr [a,b,c] 54)/\jjv (h.push (.arr row 73)) 73 3 56 (.s b) (.s (.slice h.next 0 1 1 true 3))=some (.s b',hM)/\Ok hM/\hM.get bx=some (.arr [a,b,c] 54)/\hM.put bx (some (.arr [a,b',c] 54))=hN/\BlS lo p bb bx q3 hN ps (is++[x]) es r'/\(∀ n,n<lo->hN.get n=h.get n)/\h.next<=hN.next:=by
 obtain⟨a,b,c,n1,n2,n3,h1,h2,h3,h4,h5,h6⟩:=k.ex
 obtain⟨e1,e2,e3,e4,e5,e6,e7,e8⟩:=k.ne
 have ok:=k'.ok
 have kk:∀ n∈n1++(n2++n3),h.get n=hi.get n:=fun n hn=>hk n (h6 n hn).2.1 (by have:=(h6 n hn).1;omega)
 have g1:=(hk bx e2 (by omega)).trans h1
 have g2:=h2.keep (fun n hn=>kk n (by simp[hn]))
 have g3:Sl h 73 3 false (OX h) b is n2:=h3.imp (fun n hn=>kk n (by simp[hn])) (fun row a m hm e=>e.keep (fun n hn=>kk n (by simp[hm n hn])))
 have g4:Sl h 76 2 false (OE h) c es n3:=h4.imp (fun n hn=>kk n (by simp[hn])) (fun row a m hm e=>e.keep (fun n hn=>kk n (by simp[hm n hn])))
 have c3:=(hk q3 e4 (by omega)).trans k.c3
 obtain⟨d1,d23,d4⟩:=f0s.1 h5
 obtain⟨d2,d3,d5⟩:=f0s.1 d23
 have bms:bx∉ms:=fun hc=>by have:=hms bx hc;omega
 obtain⟨b',hM,hN,t1,t2,t3,t4,t5,t6,t7,t8,t9,t10⟩:=jhj (j:=1) (bytes:=56) ok g1 ⟨by omega,by omega⟩ (fun hc=>(h6 bx (by simp[hc])).2.2.1 rfl) g3 (fun n hn=>by have:=h6 n (by simp[hn]);omega) d2 hr hx bms (fun n hn=>(hms n hn).2) (by omega) (by omega)
 have low:∀ n,n<lo->hN.get n=h.get n:=fun n hn=>t8 n (by omega) (by omega) (fun hc=>by have:=(h6 n (by simp[hc])).1;omega)
 have o1:∀ n∈n1,hN.get n=h.get n:=fun n hn=>t8 n (by have:=h6 n (by simp[hn]);omega) (h6 n (by simp[hn])).2.2.1 (fun hc=>d4 n hn n (by simp[hc]) rfl)
 have o3:∀ n∈n3,hN.get n=h.get n:=fun n hn=>t8 n (by have:=h6 n (by simp[hn]);omega) (h6 n (by simp[hn])).2.2.1 (fun hc=>d5 n hc n hn rfl)
 have om:∀ n∈ms,hN.get n=h.get n:=fun n hn=>t8 n (hms n hn).2 (fun e=>bms (e▸hn)) (fun hc=>by have:=hms n hn;have:=h6 n (by simp[hc]);omega)
 have nd:=je7 (A:=n1) (ns:=n2) (B:=n3) (N:=hi.next) (ns':=(h.next+1)::(n2.tail++ms)) h5 (fun n hn=>(h6 n hn).2.1) (f09.2 ⟨fun hc=>by
  rcases f0f.1 hc with hc | hc
  .have:=h6 (h.next+1) (by simp[f0r hc]);omega
  .have:=hms (h.next+1) hc;omega,f0s.2 ⟨d2.sublist (f17 _),hm,fun u hu w hw e=>by
   have:=h6 u (by simp[f0r hu]);have:=hms w hw;omega⟩⟩) (fun n hn=>by
  rcases f0h.1 hn with hn | hn
  .exact .inr (by omega)
  .rcases f0f.1 hn with hn | hn
   .exact .inl (f0r hn)
   .exact .inr (hms n hn).1)
 refine⟨a,b,c,b',hM,hN,g1,t1,t2,t3,t4,⟨k'.low t5 e7 e6 low (by omega),(t8 q3 (by omega) e5 (fun hc=>(h6 q3 (by simp[hc])).2.2.2 rfl)).trans c3,⟨a,b',c,n1,_,n3,t7,g2.keep o1,t10 (fun row a m hmm e=>e.keep (fun n hn=>?_)),g4.imp o3 (fun row a m hmm e=>e.keep (fun n hn=>o3 n (hmm n hn))),nd,fun n hn=>?_⟩,⟨e1,by omega,e3,by omega,e5,e6,e7,e8⟩⟩,low,by omega⟩
 .rcases hmm n hn with hc | hc
  .exact t9 n hc
  .exact om n hc
 .rcases f0f.1 hn with hn | hn
  .have:=h6 n (by simp[hn]);omega
  .rcases f0f.1 hn with hn | hn
   .rcases f0h.1 hn with rfl | hn
    .omega
    .rcases f0f.1 hn with hn | hn
     .have:=h6 n (by simp[f0r hn]);omega
     .have:=hms n hn;omega
   .have:=h6 n (by simp[hn]);omega
theorem BlS.edg (k:BlS lo p bb bx q3 hi ps is es r) (k':RdS h p bb r') (hn:hi.next<=h.next) (hk:∀ n,n<hi.next->n≠p->h.get n=hi.get n) (hl:es.length<=1000) {row:List SV} {x:Ms.Edg} {ms:List Nat} (hr:row.length=2) (hx:OE h row x ms) (hm:ms.Nodup) (hms:∀ n∈ms,hi.next<=n/\n<h.next) :
 ∃ a b c c' hM hN,h.get bx=some (.arr [a,b,c] 54)/\jjv (h.push (.arr row 76)) 76 2 32 (.s c) (.s (.slice h.next 0 1 1 true 2))=some (.s c',hM)/\Ok hM/\hM.get bx=some (.arr [a,b,c] 54)/\hM.put bx (some (.arr [a,b,c'] 54))=hN/\BlS lo p bb bx q3 hN ps is (es++[x]) r'/\(∀ n,n<lo->hN.get n=h.get n)/\h.next<=hN.next:=by
 obtain⟨a,b,c,n1,n2,n3,h1,h2,h3,h4,h5,h6⟩:=k.ex
 obtain⟨e1,e2,e3,e4,e5,e6,e7,e8⟩:=k.ne
 have ok:=k'.ok
 have kk:∀ n∈n1++(n2++n3),h.get n=hi.get n:=fun n hn=>hk n (h6 n hn).2.1 (by have:=(h6 n hn).1;omega)
 have g1:=(hk bx e2 (by omega)).trans h1
 have g2:=h2.keep (fun n hn=>kk n (by simp[hn]))
 have g3:Sl h 73 3 false (OX h) b is n2:=h3.imp (fun n hn=>kk n (by simp[hn])) (fun row a m hm e=>e.keep (fun n hn=>kk n (by simp[hm n hn])))
 have g4:Sl h 76 2 false (OE h) c es n3:=h4.imp (fun n hn=>kk n (by simp[hn])) (fun row a m hm e=>e.keep (fun n hn=>kk n (by simp[hm n hn])))
 have c3:=(hk q3 e4 (by omega)).trans k.c3
 obtain⟨d1,d23,d4⟩:=f0s.1 h5
 obtain⟨d2,d3,d5⟩:=f0s.1 d23
 have bms:bx∉ms:=fun hc=>by have:=hms bx hc;omega
 obtain⟨c',hM,hN,t1,t2,t3,t4,t5,t6,t7,t8,t9,t10⟩:=jhj (j:=2) (bytes:=32) ok g1 ⟨by omega,by omega⟩ (fun hc=>(h6 bx (by simp[hc])).2.2.1 rfl) g4 (fun n hn=>by have:=h6 n (by simp[hn]);omega) d3 hr hx bms (fun n hn=>(hms n hn).2) (by omega) (by omega)
 have low:∀ n,n<lo->hN.get n=h.get n:=fun n hn=>t8 n (by omega) (by omega) (fun hc=>by have:=(h6 n (by simp[hc])).1;omega)
 have o1:∀ n∈n1,hN.get n=h.get n:=fun n hn=>t8 n (by have:=h6 n (by simp[hn]);omega) (h6 n (by simp[hn])).2.2.1 (fun hc=>d4 n hn n (by simp[hc]) rfl)
 have o2:∀ n∈n2,hN.get n=h.get n:=fun n hn=>t8 n (by have:=h6 n (by simp[hn]);omega) (h6 n (by simp[hn])).2.2.1 (fun hc=>d5 n hn n hc rfl)
 have om:∀ n∈ms,hN.get n=h.get n:=fun n hn=>t8 n (hms n hn).2 (fun e=>bms (e▸hn)) (fun hc=>by have:=hms n hn;have:=h6 n (by simp[hc]);omega)
 have nd0:=je7 (A:=n1++n2) (ns:=n3) (B:=[]) (N:=hi.next) (ns':=(h.next+1)::(n3.tail++ms)) (by simpa[f0l] using h5) (fun n hn=>(h6 n (by simpa[f0l] using hn)).2.1) (f09.2 ⟨fun hc=>by
  rcases f0f.1 hc with hc | hc
  .have:=h6 (h.next+1) (by simp[f0r hc]);omega
  .have:=hms (h.next+1) hc;omega,f0s.2 ⟨d3.sublist (f17 _),hm,fun u hu w hw e=>by
   have:=h6 u (by simp[f0r hu]);have:=hms w hw;omega⟩⟩) (fun n hn=>by
  rcases f0h.1 hn with hn | hn
  .exact .inr (by omega)
  .rcases f0f.1 hn with hn | hn
   .exact .inl (f0r hn)
   .exact .inr (hms n hn).1)
 have nd:(n1++(n2++((h.next+1)::(n3.tail++ms)))).Nodup:=by simpa[f0l] using nd0
 refine⟨a,b,c,c',hM,hN,g1,t1,t2,t3,t4,⟨k'.low t5 e7 e6 low (by omega),(t8 q3 (by omega) e5 (fun hc=>(h6 q3 (by simp[hc])).2.2.2 rfl)).trans c3,⟨a,b,c',n1,n2,_,t7,g2.keep o1,g3.imp o2 (fun row a m hmm e=>e.keep (fun n hn=>o2 n (hmm n hn))),t10 (fun row a m hmm e=>e.keep (fun n hn=>?_)),nd,fun n hn=>?_⟩,⟨e1,by omega,e3,by omega,e5,e6,e7,e8⟩⟩,low,by omega⟩
 .rcases hmm n hn with hc | hc
  .exact t9 n hc
  .exact om n hc
 .rcases f0f.1 hn with hn | hn
  .have:=h6 n (by simp[hn]);omega
  .rcases f0f.1 hn with hn | hn
   .have:=h6 n (by simp[hn]);omega
   .rcases f0h.1 hn with rfl | hn
    .omega
    .rcases f0f.1 hn with hn | hn
     .have:=h6 n (by simp[f0r hn]);omega
     .have:=hms n hn;omega
end
attribute [local go_sem] Int.reduceToNat reduceCtorEq Nat.reduceAdd Nat.reduceMul Nat.reduceEqDiff Int.reduceEq Int.reduceLT Int.reduceLE Int.reduceNeg Int.reduceAdd Int.reduceSub Int.reduceMul Int.reduceNe
attribute [local go_sem ↓] reduceIte
theorem qbb:∀ {rows:List (List SV)} {l nss:List Nat},Rows 1 EI rows l nss->nss=[]
 | _,_,_,.nil=>rfl
 | _,_,_,.cons _ h2 h3=>by rw[h2.2,qbb h3];rfl
theorem qma {h:Hp} {ty:Nat} {ex:Bool} {x:SV} {ns:List Nat} (s:Sl h ty 1 ex EI x l ns):ns.Nodup:=by
 rcases s with⟨_,_,rfl⟩ | ⟨_,b,rows,nss,_,_,hR,rfl⟩
 .exact .nil
 .rw [qbb hR];simp
theorem qep {F:Fns} (f:RdF0 F) {lo p bb bx q3:Nat} {h:Hp} {ps:List Nat} {is:List Ms.Ins} {es:List Ms.Edg} {r:Rd} (hl:is.length<256) (k:BlS lo p bb bx q3 h ps is es r) :
 WC F 40 [.s (.ptr q3 0),.s (.ptr bx 0)] h (fun _ h'=>BlS lo p bb bx q3 h' ps (is++[(jv0 r).1]) es (jv0 r).2/\(∀ n,n<lo->n≠p->h'.get n=h.get n)/\h.next<=h'.next):=by
 refine jan (f.x _ rfl _ _) ((congrFun f.t _).trans ql4) rfl ?_
 unfold qa2
 have ok:=k.rd.ok
 have c3:=k.c3
 obtain⟨e1,e2,e3,e4,e5,e6,e7,e8⟩:=k.ne
 simp(disch:=first|omega|rfl) only[go_sem,c3]
 refine WC.imp (qeo f k.rd) ?_
 rintro _ hA ⟨row,ns,rfl,hrow,hox,hnd,hns,kA,mA⟩
 have okA:=kA.ok
 have nA:=mA.nx
 obtain⟨x0,x1,x2,rfl⟩:∃ x0 x1 x2,row=[x0,x1,x2]:=by
  match row,hrow with
  | [x0,x1,x2],_=>exact⟨x0,x1,x2,rfl⟩
 obtain⟨hB,eB,okB,nB,xB,gB⟩:=jhi okA [.int .i64 0,.nilSlice,.nilSlice] [x0,x1,x2] 73
 have kB:=kA.keep okB gB (by omega)
 obtain⟨a,b,c,b',hM,hN,t1,t2,okM,t3,t4,kN,t5,t6⟩:=k.ins kB (by omega) (fun n hn hne=>(gB n (by omega)).trans (mA.keep n hn (by simpa using hne))) (by omega) rfl (hox.keep (fun n hn=>gB n (hns n hn).2)) hnd (fun n hn=>by have:=hns n hn;omega)
 have okN:=kN.rd.ok
 simp(disch:=first|omega|rfl) only[go_sem,eB,t1,xB,t2,t3,t4]
 exact⟨kN,fun n hn hne=>(t5 n hn).trans ((gB n (by omega)).trans (mA.keep n (by omega) (by simpa using hne))),by omega⟩
theorem qeq {F:Fns} (f:RdF0 F) {lo p bb bx q3:Nat} {h:Hp} {ps:List Nat} {is:List Ms.Ins} {es:List Ms.Edg} {r:Rd} (hl:es.length<256) (k:BlS lo p bb bx q3 h ps is es r) :
 WC (FW F) 42 [.s (.ptr q3 0),.s (.ptr bx 0)] h (fun _ h'=>BlS lo p bb bx q3 h' ps is (es++[(j38 r).1]) (j38 r).2/\(∀ n,n<lo->n≠p->h'.get n=h.get n)/\h.next<=h'.next):=by
 have fu:=f.up
 refine jan (fu.x _ rfl _ _) ((congrFun fu.t _).trans ql5) rfl ?_
 unfold qa3
 have ok:=k.rd.ok
 have c3:=k.c3
 obtain⟨e1,e2,e3,e4,e5,e6,e7,e8⟩:=k.ne
 simp(disch:=first|omega|rfl) only[go_sem,c3]
 refine WC.imp (jc9 fu k.rd) ?_
 rintro _ hA ⟨rfl,kA,mA⟩
 have okA:=kA.ok
 have nA:=mA.nx
 obtain⟨r1,w1⟩:∃ r1,(smF r).2=r1:=⟨_,rfl⟩
 obtain⟨v1,w2⟩:∃ v1,(smF r).1=v1:=⟨_,rfl⟩
 rw[w1] at kA
 rw[w2]
 obtain⟨hB,eB,okB,nB,xB,gB⟩:=jhi okA [.int .i64 0,.nilSlice] [si v1,.nilSlice] 76
 have kB:=kA.keep okB gB (by omega)
 have c3B:=(gB q3 (by omega)).trans ((mA.keep q3 e4 (by simp;omega)).trans c3)
 simp(disch:=first|omega|rfl) only[go_sem,eB,c3B]
 refine WC.imp (jtu f kB) ?_
 rintro _ hC ⟨x,ns,rfl,sC,hns,kC,mC⟩
 have okC:=kC.ok
 have nC:=mC.nx
 have hAp:hA.next≠p:=by have:=kA.p1;omega
 have xC:=(mC.keep hA.next (by omega) (by simpa using hAp)).trans xB
 obtain⟨hD,eD,okD,nD,xD,gD⟩:=jrx okC (b:=hA.next) (by have:=okA.pos;omega) (some (.arr [si v1,x] 76))
 have sD:Sl hD 3 1 false EI x (jep r1).1 ns:=sC.keep (fun n hn=>gD n (by have:=hns n hn;omega))
 have hnd:=qma sC
 have kD:RdS hD p bb (jep r1).2:=kC.low (lo:=lo) okD e7 e6 (fun n hn=>gD n (by omega)) (by omega)
 obtain⟨a,b,c,c',hM,hN,t1,t2,okM,t3,t4,kN,t5,t6⟩:=k.edg kD (by omega) (fun n hn hne=>(gD n (by omega)).trans ((mC.keep n (by omega) (by simpa using hne)).trans ((gB n (by omega)).trans (mA.keep n hn (by simpa using hne))))) (by omega) rfl (show OE hD [si v1,x] ⟨v1,(jep r1).1⟩ ns from ⟨x,rfl,sD⟩) hnd (fun n hn=>by have:=hns n hn;omega)
 have okN:=kN.rd.ok
 simp(disch:=first|omega|rfl) only[go_sem,xC,eD,xD,t1,t2,t3,t4]
 have ee:j38 r=(⟨v1,(jep r1).1⟩,(jep r1).2):=by
  show((⟨(smF r).1,(jep (smF r).2).1⟩:Ms.Edg),(jep (smF r).2).2)=_
  rw[w1,w2]
 rw[ee]
 exact⟨kN,fun n hn hne=>(t5 n hn).trans ((gD n (by omega)).trans ((mC.keep n (by omega) (by simpa using hne)).trans ((gB n (by omega)).trans (mA.keep n (by omega) (by simpa using hne))))),by omega⟩
def BlR (h:Hp) (p bb:Nat) (x:Ms.Blk) (r:Rd):AV->Hp->Prop:=fun v h'=>∃ row ns,v=.agg row/\row.length=3/\OB h' row x ns/\ns.Nodup/\(∀ n∈ns,h.next<=n/\n<h'.next)/\RdS h' p bb r/\Mv h h' [p] [p]
theorem qer {F:Fns} (f:RdF0 F) {p bb:Nat} {h:Hp} {r:Rd} (k:RdS h p bb r):WC (FW F) 23 [.s (.ptr p 0)] h (BlR h p bb (j41 r).1 (j41 r).2):=by
 have fu:=f.up
 refine jan (fu.x _ rfl _ _) ((congrFun fu.t _).trans ql3) rfl ?_
 unfold qa1
 have ok:=k.ok
 have hpos:=ok.pos
 obtain⟨q1,q2,q3,q4⟩:=k.p1
 obtain⟨hA,eA,okA,nA,xA,gA⟩:=jra ok [.ptr p 0] 55
 obtain⟨hB,eB,okB,nB,xB,gB⟩:=jra okA [.nilSlice,.nilSlice,.nilSlice] 54
 have yA:=(gB h.next (by omega)).trans xA
 rw[nA] at xB
 have lowB:∀ n,n<h.next->hB.get n=h.get n:=fun n hn=>(gB n (by omega)).trans (gA n hn)
 have kB:=k.keep okB lowB (by omega)
 obtain⟨r1,w1⟩:∃ r1,(jep r).2=r1:=⟨_,rfl⟩
 obtain⟨l1,w2⟩:∃ l1,(jep r).1=l1:=⟨_,rfl⟩
 simp(disch:=first|omega|rfl) only[go_sem,eA,nA,eB,yA]
 refine WC.imp (jtu f kB) ?_
 rintro _ hC ⟨x,ns,rfl,sC,hns,kC,mC⟩
 rw[w1] at kC
 rw[w2] at sC
 have okC:=kC.ok
 have nC:=mC.nx
 have yC:=(mC.keep h.next (by omega) (by simp;omega)).trans yA
 have zC:=(mC.keep (h.next+1) (by omega) (by simp;omega)).trans xB
 obtain⟨hD,eD,okD,nD,xD,gD⟩:=jhi okC [.nilSlice,.nilSlice,.nilSlice] [x,.nilSlice,.nilSlice] 54
 have kD:=kC.keep okD gD (by omega)
 have yD:=(gD h.next (by omega)).trans yC
 have zD:=(gD (h.next+1) (by omega)).trans zC
 have i0:BlS (h.next+2) p bb hC.next h.next hD l1 [] [] r1:=⟨kD,yD,⟨x,_,_,ns,[],[],xD,sC.keep (fun n hn=>gD n (hns n hn).2),.nil,.nil,by simpa using qma sC,fun n hn=>by have:=hns n (by simpa using hn);omega⟩,⟨by omega,by omega,by omega,by omega,by omega,by omega,by omega,by omega⟩⟩
 simp(disch:=first|omega|rfl) only[go_sem,eD,yD]
 refine WC.imp (jmf fu (P:=jv0) (I:=fun l r h'=>BlS (h.next+2) p bb hC.next h.next h' l1 l [] r/\(∀ n,n<h.next+2->n≠p->h'.get n=hD.get n)/\hD.next<=h'.next) (fun l r h' i=>i.1.rd) (fun l r h' hl i _=>?_) (fun l r r' h' h2 i k' m=>⟨i.1.sm k' m,fun n hn hne=>(m.keep n (by have:=i.2.2;omega) (by simpa using hne)).trans (i.2.1 n hn hne),by have:=m.nx;have:=i.2.2;omega⟩) ⟨i0,fun n hn _=>rfl,f0d _⟩) ?_
 .exact WC.imp (qep fu hl i.1) (fun v h2 hh=>⟨hh.1,fun n hn hne=>(hh.2.1 n hn hne).trans (i.2.1 n hn hne),by have:=i.2.2;have:=hh.2.2;omega⟩)
 obtain⟨r2,w3⟩:∃ r2,(eachR jv0 r1).2=r2:=⟨_,rfl⟩
 obtain⟨l2,w4⟩:∃ l2,(eachR jv0 r1).1=l2:=⟨_,rfl⟩
 rintro _ hE ⟨i1,lo1,nx1⟩
 rw[w3,w4] at i1
 have okE:=i1.rd.ok
 have yE:=i1.c3
 simp(disch:=first|omega|rfl) only[go_sem,yE]
 refine WC.imp (jmf fu (P:=j38) (I:=fun l r h'=>BlS (h.next+2) p bb hC.next h.next h' l1 l2 l r/\(∀ n,n<h.next+2->n≠p->h'.get n=hE.get n)/\hE.next<=h'.next) (fun l r h' i=>i.1.rd) (fun l r h' hl i _=>?_) (fun l r r' h' h2 i k' m=>⟨i.1.sm k' m,fun n hn hne=>(m.keep n (by have:=i.2.2;omega) (by simpa using hne)).trans (i.2.1 n hn hne),by have:=m.nx;have:=i.2.2;omega⟩) ⟨i1,fun n hn _=>rfl,f0d _⟩) ?_
 .exact WC.imp (qeq f hl i.1) (fun v h2 hh=>⟨hh.1,fun n hn hne=>(hh.2.1 n hn hne).trans (i.2.1 n hn hne),by have:=i.2.2;have:=hh.2.2;omega⟩)
 obtain⟨r3,w5⟩:∃ r3,(eachR j38 r2).2=r3:=⟨_,rfl⟩
 obtain⟨l3,w6⟩:∃ l3,(eachR j38 r2).1=l3:=⟨_,rfl⟩
 rintro _ hG ⟨i2,lo2,nx2⟩
 rw[w5,w6] at i2
 have okG:=i2.rd.ok
 obtain⟨a,b,c,n1,n2,n3,h1,h2,h3,h4,h5,h6⟩:=i2.ex
 have zG:hG.get (h.next+1)=some (.arr [.nilSlice,.nilSlice,.nilSlice] 54):=(lo2 _ (by omega) (by omega)).trans ((lo1 _ (by omega) (by omega)).trans zD)
 obtain⟨hH,eH,okH,nH,xH,gH⟩:=jrx okG (b:=h.next+1) (by omega) (some (.arr [a,b,c] 54))
 simp(disch:=first|omega|rfl) only[go_sem,h1,zG,eH,xH]
 have ei:j41 r=(⟨l1,l2,l3⟩,r3):=by
  show((⟨(jep r).1,(eachR jv0 (jep r).2).1,(eachR j38 (eachR jv0 (jep r).2).2).1⟩:Ms.Blk),(eachR j38 (eachR jv0 (jep r).2).2).2)=_
  rw[w1,w2,w3,w4,w5,w6]
 rw[ei]
 have hk:∀ n∈n1++(n2++n3),hH.get n=hG.get n:=fun n hn=>gH n (by have:=h6 n hn;omega)
 refine⟨_,n1++(n2++n3),rfl,rfl,⟨a,b,c,n1,n2,n3,false,rfl,h2.keep (fun n hn=>hk n (by simp[hn])),h3.imp (fun n hn=>hk n (by simp[hn])) (fun row a m hm e=>e.keep (fun n hn=>hk n (by simp[hm n hn]))),h4.imp (fun n hn=>hk n (by simp[hn])) (fun row a m hm e=>e.keep (fun n hn=>hk n (by simp[hm n hn]))),rfl⟩,h5,fun n hn=>by have:=h6 n hn;omega,i2.rd.low (lo:=h.next) okH (by omega) (by omega) (fun n hn=>gH n (by omega)) (by omega),⟨okH,by omega,fun n hn=>.inl hn,fun n hn hne=>?_⟩⟩
 have hne':n≠p:=by simpa using hne
 exact(gH n (by omega)).trans ((lo2 n (by omega) hne').trans ((lo1 n (by omega) hne').trans ((gD n (by omega)).trans ((mC.keep n (by omega) hne).trans (lowB n hn)))))
structure DeS (lo p bb q6 q7:Nat) (u:SV×SV×SV×SV×SV) (h:Hp) (vs:List Nat) (bs:List Ms.Blk) (r:Rd):Prop where
 rd:RdS h p bb r
 c7:h.get q7=some (.arr [.ptr p 0] 55)
 ex:∃ a b n1 n2,h.get q6=some (.arr [u.1,u.2.1,a,b,u.2.2.1,u.2.2.2.1,u.2.2.2.2] 31)/\Sl h 3 1 false EI a vs n1/\Sl h 54 3 false (OB h) b bs n2/\(n1++n2).Nodup/\∀ n∈n1++n2,lo<=n/\n<h.next/\n≠q6/\n≠q7
 ne:lo<=q6/\q6<h.next/\q7≠p/\q7<h.next/\q7≠q6/\bb<lo/\p<lo/\1<=lo
section
variable {lo p bb q6 q7:Nat} {u:SV×SV×SV×SV×SV} {h h' hi:Hp} {vs:List Nat} {bs:List Ms.Blk} {r r':Rd}
theorem DeS.mv (k:DeS lo p bb q6 q7 u h vs bs r) (k':RdS h' p bb r') (hn:h.next<=h'.next) (hk:∀ n,n<h.next->n≠p->h'.get n=h.get n):DeS lo p bb q6 q7 u h' vs bs r':=by
 obtain⟨a,b,n1,n2,h1,h2,h3,h5,h6⟩:=k.ex
 obtain⟨e1,e2,e3,e4,e5,e6,e7,e8⟩:=k.ne
 have kk:∀ n∈n1++n2,h'.get n=h.get n:=fun n hn=>hk n (h6 n hn).2.1 (by have:=(h6 n hn).1;omega)
 exact⟨k',(hk q7 e4 (by omega)).trans k.c7,⟨a,b,n1,n2,(hk q6 e2 (by omega)).trans h1,h2.keep (fun n hn=>kk n (by simp[hn])),h3.imp (fun n hn=>kk n (by simp[hn])) (fun row a m hm e=>e.keep (fun n hn=>kk n (by simp[hm n hn]))),h5,fun n hn=>by have:=h6 n hn;omega⟩,⟨e1,by omega,e3,by omega,e5,e6,e7,e8⟩⟩
theorem DeS.sm (k:DeS lo p bb q6 q7 u h vs bs r) (k':RdS h' p bb r') (m:Mv h h' [p] [p]):DeS lo p bb q6 q7 u h' vs bs r':=k.mv k' m.nx (fun n hn hne=>m.keep n hn (by simpa using hne))
theorem DeS.blk (k:DeS lo p bb q6 q7 u hi vs bs r) (k':RdS h p bb r') (hn:hi.next<=h.next) (hk:∀ n,n<hi.next->n≠p->h.get n=hi.get n) (hl:bs.length<=1000) {row:List SV} {x:Ms.Blk} {ms:List Nat} (hr:row.length=3) (hx:OB h row x ms) (hm:ms.Nodup) (hms:∀ n∈ms,hi.next<=n/\n<h.next) :
 ∃ a b b' hM hN,h.get q6=some (.arr [u.1,u.2.1,a,b,u.2.2.1,u.2.2.2.1,u.2.2.2.2] 31)/\jjv (h.push (.arr row 54)) 54 3 72 (.s b) (.s (.slice h.next 0 1 1 true 3))=some (.s b',hM)/\Ok hM/\hM.get q6=some (.arr [u.1,u.2.1,a,b,u.2.2.1,u.2.2.2.1,u.2.2.2.2] 31)/\hM.put q6 (some (.arr [u.1,u.2.1,a,b',u.2.2.1,u.2.2.2.1,u.2.2.2.2] 31))=hN/\DeS lo p bb q6 q7 u hN vs (bs++[x]) r'/\(∀ n,n<lo->hN.get n=h.get n)/\h.next<=hN.next:=by
 obtain⟨a,b,n1,n2,h1,h2,h3,h5,h6⟩:=k.ex
 obtain⟨e1,e2,e3,e4,e5,e6,e7,e8⟩:=k.ne
 have ok:=k'.ok
 have kk:∀ n∈n1++n2,h.get n=hi.get n:=fun n hn=>hk n (h6 n hn).2.1 (by have:=(h6 n hn).1;omega)
 have g1:=(hk q6 e2 (by omega)).trans h1
 have g2:=h2.keep (fun n hn=>kk n (by simp[hn]))
 have g3:Sl h 54 3 false (OB h) b bs n2:=h3.imp (fun n hn=>kk n (by simp[hn])) (fun row a m hm e=>e.keep (fun n hn=>kk n (by simp[hm n hn])))
 have c7:=(hk q7 e4 (by omega)).trans k.c7
 obtain⟨d1,d2,d4⟩:=f0s.1 h5
 have bms:q6∉ms:=fun hc=>by have:=hms q6 hc;omega
 obtain⟨b',hM,hN,t1,t2,t3,t4,t5,t6,t7,t8,t9,t10⟩:=jhj (j:=3) (bytes:=72) ok g1 ⟨by omega,by omega⟩ (fun hc=>(h6 q6 (by simp[hc])).2.2.1 rfl) g3 (fun n hn=>by have:=h6 n (by simp[hn]);omega) d2 hr hx bms (fun n hn=>(hms n hn).2) (by omega) (by omega)
 have low:∀ n,n<lo->hN.get n=h.get n:=fun n hn=>t8 n (by omega) (by omega) (fun hc=>by have:=(h6 n (by simp[hc])).1;omega)
 have o1:∀ n∈n1,hN.get n=h.get n:=fun n hn=>t8 n (by have:=h6 n (by simp[hn]);omega) (h6 n (by simp[hn])).2.2.1 (fun hc=>d4 n hn n hc rfl)
 have om:∀ n∈ms,hN.get n=h.get n:=fun n hn=>t8 n (hms n hn).2 (fun e=>bms (e▸hn)) (fun hc=>by have:=hms n hn;have:=h6 n (by simp[hc]);omega)
 have nd0:=je7 (A:=n1) (ns:=n2) (B:=[]) (N:=hi.next) (ns':=(h.next+1)::(n2.tail++ms)) (by simpa using h5) (fun n hn=>(h6 n (by simpa using hn)).2.1) (f09.2 ⟨fun hc=>by
  rcases f0f.1 hc with hc | hc
  .have:=h6 (h.next+1) (by simp[f0r hc]);omega
  .have:=hms (h.next+1) hc;omega,f0s.2 ⟨d2.sublist (f17 _),hm,fun u hu w hw e=>by
   have:=h6 u (by simp[f0r hu]);have:=hms w hw;omega⟩⟩) (fun n hn=>by
  rcases f0h.1 hn with hn | hn
  .exact .inr (by omega)
  .rcases f0f.1 hn with hn | hn
   .exact .inl (f0r hn)
   .exact .inr (hms n hn).1)
 have nd:(n1++((h.next+1)::(n2.tail++ms))).Nodup:=by simpa using nd0
 refine⟨a,b,b',hM,hN,g1,t1,t2,t3,t4,⟨k'.low t5 e7 e6 low (by omega),(t8 q7 (by omega) e5 (fun hc=>(h6 q7 (by simp[hc])).2.2.2 rfl)).trans c7,⟨a,b',n1,_,t7,g2.keep o1,t10 (fun row a m hmm e=>e.keep (fun n hn=>?_)),nd,fun n hn=>?_⟩,⟨e1,by omega,e3,by omega,e5,e6,e7,e8⟩⟩,low,by omega⟩
 .rcases hmm n hn with hc | hc
  .exact t9 n hc
  .exact om n hc
 .rcases f0f.1 hn with hn | hn
  .have:=h6 n (by simp[hn]);omega
  .rcases f0h.1 hn with rfl | hn
   .omega
   .rcases f0f.1 hn with hn | hn
    .have:=h6 n (by simp[f0r hn]);omega
    .have:=hms n hn;omega
end
theorem qes {h:Hp} (ok:Ok h) (l:List Nat) (hl:l.length<=100000):∃ x h',jjv (h.push (.arr [] 5)) 5 1 1 (.s (.slice h.next 0 0 0 true 1)) (.s (.lst (l.map jfa)))=some (.s x,h')/\Ok h'/\h.next<=h'.next/\(∀ n,n<h.next->h'.get n=h.get n)/\jlz (.s x)=some (vi l.length) /\
 (l=[]∨∃ bb mc ex cells ty,x=.slice bb 0 l.length mc ex 1/\l.length<=mc/\h.next<=bb/\bb<h'.next/\h'.get bb=some (.arr cells ty)/\∀ (i n:Nat),l[i]?=some n->cells[i]?=some (.int .u8 n)):=by
 obtain⟨hA,eA,okA,nA,xA,gA⟩:=jra ok ([]:List SV) 5
 rw[eA]
 have hpos:=ok.pos
 cases l with
 | nil =>
  obtain⟨hB,eB,okB,nB,xB,gB⟩:=jrx okA (b:=h.next) hpos (some (.arr [] 5))
  refine⟨.slice h.next 0 0 0 true 1,hB,?_,okB,by omega,fun n hn=>(gB n (by omega)).trans (gA n hn),rfl,.inl rfl⟩
  show ob (wr hA h.next 0 []) (fun g=>some (AV.s (.slice h.next 0 0 0 true 1),g))=_
  rw[j6n okA,xA]
  show some (AV.s (.slice h.next 0 0 0 true 1),hA.put h.next (some (.arr [] 5)))=_
  rw[eB]
 | cons a l =>
  have fl:jim 1 ((a::l).map jfa)=some ((a::l).map (fun n:Nat=>SV.int .u8 n)):=by
   rw[jil (fun r hr=>by obtain⟨n,_,rfl⟩:=f2a.1 hr;rfl)]
   congr 1
   generalize a::l=q
   induction q with
   | nil=>rfl
   | cons b q ih=>rw[f08,f0u,ih];rfl
  obtain⟨hB,eB,okB,nB,xB,gB⟩:=jra okA ((a::l).map (fun n:Nat=>SV.int .u8 n)) 5
  have hll:ja9 ((a::l).map jfa)=l.length+1:=by rw[jas];simp
  refine⟨.slice hA.next 0 (a::l).length (a::l).length false 1,hB,?_,okB,by omega,fun n hn=>(gB n (by omega)).trans (gA n hn),rfl,.inr ⟨hA.next,_,_,_,_,rfl,f0d _,by omega,by omega,xB,fun i n hi=>by rw[f07,hi];rfl⟩⟩
  show ob (jim 1 ((a::l).map jfa)) (fun new=>jrz hA 5 1 1 (ja9 ((a::l).map jfa)) (.s (.slice h.next 0 0 0 true 1)) new)=_
  rw[fl,hll]
  show oif (Nat.ble (Nat.add 0 (l.length+1)) 0) (ob (wr hA h.next (Nat.add 0 (Nat.mul 0 1)) ((a::l).map (fun n:Nat=>SV.int .u8 n))) (fun g=>some (AV.s (.slice h.next 0 (Nat.add 0 (l.length+1)) 0 true 1),g))) (jft 1 (Nat.add 0 (l.length+1)) (jkq hA 5 1 h.next 0 0 (l.length+1) true ((a::l).map (fun n:Nat=>SV.int .u8 n))))=_
  have e0:Nat.add 0 (l.length+1)=l.length+1:=f0y _
  have e1:Nat.ble (Nat.add 0 (l.length+1)) 0=false:=by rw[e0];rfl
  rw[e1,e0]
  show jft 1 (l.length+1) _=_
  have hl':l.length+1<=100000:=hl
  rw[jgw (by omega) (by omega)]
  show ob (hA.get h.next) _=_
  rw[xA]
  show nw hA (jeq [] ((a::l).map (fun n:Nat=>SV.int .u8 n))) 5 (fun k h=>some (AV.s (.slice k 0 (Nat.add 0 (l.length+1)) (Nat.add 0 (l.length+1)) false 1),h))=_
  rw[jmr okA,e0]
  show some (AV.s (.slice hA.next 0 (l.length+1) (l.length+1) false 1),hA.push (.arr ((a::l).map (fun n:Nat=>SV.int .u8 n)) 5))=_
  rw[eB]
  rfl
theorem qet {F:Fns} (f:RdF0 F) {h:Hp} (ok:Ok h) (hl:l.length<=100000):WC F 16 [.s (.lst (l.map jfa))] h (fun v h'=>∃ x,v=.s x/\Ok h'/\h.next<=h'.next/\(∀ n,n<h.next->h'.get n=h.get n)/\jlz (.s x)=some (vi l.length)/\(l=[]∨∃ bb mc ex cells ty,x=.slice bb 0 l.length mc ex 1/\l.length<=mc/\h.next<=bb/\bb<h'.next/\h'.get bb=some (.arr cells ty)/\∀ (i n:Nat),l[i]?=some n->cells[i]?=some (.int .u8 n))):=by
 refine jan (f.x _ rfl _ _) ((congrFun f.t _).trans qlx) rfl ?_
 unfold qav
 have e0:pop [AV.s (SV.lst (List.map jfa l))] [AV.s (SV.lst (List.map jfa l)),AV.s SV.nilSlice,AV.undef] (PO.snil false (Od.l 0) (Od.c (AV.s SV.nilSlice)))=some (vb false):=rfl
 obtain⟨x,h',t1,t2⟩:=qes ok l hl
 simp(disch:=first|omega|rfl) only[go_sem,e0]
 unfold j4h
 simp(disch:=first|omega|rfl) only[go_sem,t1]
 have ok':=t2.1
 exact⟨x,rfl,t2⟩
set_option maxHeartbeats 2000000
structure JkS (lo p bb q6 q7:Nat) (u:SV×SV×SV×SV) (h:Hp) (l:List Nat) (r:Rd):Prop where
 rd:RdS h p bb r
 c7:h.get q7=some (.arr [.ptr p 0] 55)
 ex:∃ x ns,h.get q6=some (.arr [u.1,u.2.1,.nilSlice,.nilSlice,u.2.2.1,u.2.2.2,x] 31)/\Sl h 3 1 false EI x l ns/\ns.Nodup/\∀ n∈ns,lo<=n/\n<h.next/\n≠q6/\n≠q7
 ne:lo<=q6/\q6<h.next/\q7≠p/\q7<h.next/\q7≠q6/\bb<lo/\p<lo/\1<=lo
theorem JkS.sm {lo p bb q6 q7:Nat} {u:SV×SV×SV×SV} {h h':Hp} {r r':Rd} (k:JkS lo p bb q6 q7 u h l r) (k':RdS h' p bb r') (m:Mv h h' [p] [p]):JkS lo p bb q6 q7 u h' l r':=by
 obtain⟨x,ns,h1,h2,h3,h4⟩:=k.ex
 obtain⟨e1,e2,e3,e4,e5,e6,e7,e8⟩:=k.ne
 have nx:=m.nx
 exact⟨k',(m.keep q7 e4 (by simpa using e3)).trans k.c7,⟨x,ns,(m.keep q6 e2 (by simp;omega)).trans h1,h2.keep (fun n hn=>m.keep n (h4 n hn).2.1 (by have:=(h4 n hn).1;simp;omega)),h3,fun n hn=>by have:=h4 n hn;omega⟩,⟨e1,by omega,e3,by omega,e5,e6,e7,e8⟩⟩
theorem qeu {F:Fns} (f:RdF0 F) {lo p bb q6 q7:Nat} {u:SV×SV×SV×SV} {h:Hp} {r:Rd} (hl:l.length<256) (k:JkS lo p bb q6 q7 u h l r) :
 ∃ v h',jeb (BX noB qi2 F) 20 [.s (.ptr q6 0),.s (.ptr q7 0)] h=some (v,h')/\JkS lo p bb q6 q7 u h' (l++[(jd7 r).1]) (jd7 r).2/\(∀ n,n<lo->n≠p->h'.get n=h.get n)/\h.next<=h'.next:=by
 refine qi3 (q:=qi2) (R:=fun _ h'=>JkS lo p bb q6 q7 u h' (l++[(jd7 r).1]) (jd7 r).2/\(∀ n,n<lo->n≠p->h'.get n=h.get n)/\h.next<=h'.next) rfl ?_
 show WB F noB jv8 (.mk [.s (.ptr q6 0),.s (.ptr q7 0)] h) (j56 [] _)
 unfold jv8 j4q
 obtain⟨x,ns,c1,c2,nd,c3⟩:=k.ex
 obtain⟨a4,a6,a3,a7,a1,a8,a9,a10⟩:=k.ne
 have ok:=k.rd.ok
 have x3:=k.c7
 refine WB.flo ?_
 refine WL.pure (v:=.s (.ptr q6 6)) (by simp only[go_sem]) ?_
 have ld6:∀ {hh:Hp} {cells:List SV} {y:SV},hh.get q6=some (.arr cells 31)->cells[6]?=some y->rdB (hh.get q6) 6 1=some [y]:=fun hg hy=>by rw[hg];exact j1t hy
 have r1:=ld6 c1 rfl
 refine WL.ld (v:=.s x) (h':=h) rfl (by simp only[go_sem,r1]) (by simp) c2.eqN ?_
 refine WL.ld (v:=.s (.ptr p 0)) (h':=h) rfl (by simp only[go_sem,x3]) (fun j hj=>by simp at hj;subst hj;exact⟨_,rfl,.inl rfl⟩) (qa8 _ _) ?_
 refine WL.call (vs:=[.s (.ptr p 0)]) (by simp only[go_sem]) ?_
 refine WC.imp (jtt f k.rd) ?_
 rintro _ h2 ⟨rfl,k1,m1⟩
 have k2:=k.sm k1 m1
 have ok2:=k1.ok
 have nx:=m1.nx
 have y1:h2.get q6=some (.arr [u.1,u.2.1,.nilSlice,.nilSlice,u.2.2.1,u.2.2.2,x] 31):=(m1.keep q6 a6 (by simp;omega)).trans c1
 have y1r:=ld6 y1 rfl
 have s2:Sl h2 3 1 false EI x l ns:=c2.keep (fun n hn=>m1.keep n (c3 n hn).2.1 (by have:=(c3 n hn).1;simp;omega))
 refine⟨fun j hj=>by simp at hj;subst hj;exact⟨_,rfl,jus,jut (h2:=h2) (by simp only[go_sem,y1r]),c2.eqN⟩,?_⟩
 have p2:∀ n,n<h2.next->(h2.push (AB.arr [si (jd7 r).1] 3)).get n=h2.get n:=fun n hn=>by rw[jaq ok2,if_neg (by omega)]
 refine WL.mem (v:=.s (.slice h2.next 0 1 1 true 1)) (h':=h2.push (AB.arr [si (jd7 r).1] 3)) rfl rfl (by simp(disch:=first|omega|rfl) only[go_sem]) (fun j hj=>by simp at hj;subst hj;exact⟨_,rfl,jus,jut (h2:=h2.push (AB.arr [si (jd7 r).1] 3)) (by simp only[go_sem,eq_false (show ¬ q6=h2.next by omega),if_false,y1r]),c2.eqN⟩) ?_
 obtain⟨x',h4,h5,e4,ok4,t3,e5,ok5,n5,x5,t7,t8,t9⟩:=jhj (j:=6) (bytes:=8) (row:=[si (jd7 r).1]) (a:=(jd7 r).1) (ms:=[]) ok2 y1 ⟨by omega,by omega⟩ (fun hc=>(c3 q6 hc).2.2.1 rfl) s2 (fun n hn=>by have:=c3 n hn;omega) nd rfl ⟨rfl,rfl⟩ (by simp) (by simp) (by omega) (by omega)
 refine WL.mem (v:=.s x') (h':=h4) rfl rfl (by simp only[go_sem,e4]) (fun j hj=>by simp at hj) ?_
 refine WL.pure (v:=.s (.ptr q6 6)) (by simp only[go_sem]) ?_
 refine WL.mem (v:=.undef) (h':=h5) rfl rfl (by simp(disch:=first|omega|rfl) only[go_sem,t3];rw[←e5];rfl) (fun j hj=>by simp at hj) ?_
 refine WL.nil ?_
 have pn:∀ n,n<lo->n∉ns:=fun n hn hc=>by have:=(c3 n hc).1;omega
 have low:∀ n,n<lo->h5.get n=h2.get n:=fun n hn=>t7 n (by omega) (by omega) (pn n hn)
 have tl:∀ n∈ns.tail,n∈ns:=fun n hn=>f0r hn
 have fin:JkS lo p bb q6 q7 u h5 (l++[(jd7 r).1]) (jd7 r).2/\(∀ n,n<lo->n≠p->h5.get n=h.get n)/\h.next<=h5.next:=by
  refine⟨⟨k1.low ok5 a9 a8 low (by omega),(t7 q7 (by omega) a1 (fun hc=>(c3 q7 hc).2.2.2 rfl)).trans ((m1.keep q7 a7 (by simpa using a3)).trans x3),⟨x',_,x5,t9 (E':=EI) (fun _ _ _ _ e=>e),?_,fun n hn=>?_⟩,⟨a4,by omega,a3,by omega,a1,a8,a9,a10⟩⟩,fun n hn hne=>(low n hn).trans (m1.keep n (by omega) (by simpa using hne)),by omega⟩
  .rw [f1d]
   exact f09.2 ⟨fun hc=>by have:=c3 _ (tl _ hc);omega,nd.sublist (f17 _)⟩
  .rcases f0h.1 hn with rfl | hn
   .omega
   .have:=c3 n (tl n (by simpa using hn));omega
 simp(disch:=first|omega|rfl) only[go_sem]
 exact fin
structure DeT (lo p bb q6 q7:Nat) (u:SV×SV×SV×SV) (h:Hp) (js vs:List Nat) (bs:List Ms.Blk) (r:Rd):Prop where
 rd:RdS h p bb r
 c7:h.get q7=some (.arr [.ptr p 0] 55)
 ex:∃ a b c n1 n2 n3,h.get q6=some (.arr [u.1,u.2.1,a,b,u.2.2.1,u.2.2.2,c] 31)/\Sl h 3 1 false EI a vs n1/\Sl h 54 3 false (OB h) b bs n2/\Sl h 3 1 false EI c js n3/\(n1++(n2++n3)).Nodup/\∀ n∈n1++(n2++n3),lo<=n/\n<h.next/\n≠q6/\n≠q7
 ne:lo<=q6/\q6<h.next/\q7≠p/\q7<h.next/\q7≠q6/\bb<lo/\p<lo/\1<=lo
section
variable {lo p bb q6 q7:Nat} {u:SV×SV×SV×SV} {h h' hi:Hp} {js vs:List Nat} {bs:List Ms.Blk} {r r':Rd}
theorem DeT.mv (k:DeT lo p bb q6 q7 u h js vs bs r) (k':RdS h' p bb r') (hn:h.next<=h'.next) (hk:∀ n,n<h.next->n≠p->h'.get n=h.get n):DeT lo p bb q6 q7 u h' js vs bs r':=by
 obtain⟨a,b,c,n1,n2,n3,h1,h2,h3,h4,h5,h6⟩:=k.ex
 obtain⟨e1,e2,e3,e4,e5,e6,e7,e8⟩:=k.ne
 have kk:∀ n∈n1++(n2++n3),h'.get n=h.get n:=fun n hn=>hk n (h6 n hn).2.1 (by have:=(h6 n hn).1;omega)
 exact⟨k',(hk q7 e4 (by omega)).trans k.c7,⟨a,b,c,n1,n2,n3,(hk q6 e2 (by omega)).trans h1,h2.keep (fun n hn=>kk n (by simp[hn])),h3.imp (fun n hn=>kk n (by simp[hn])) (fun row a m hm e=>e.keep (fun n hn=>kk n (by simp[hm n hn]))),h4.keep (fun n hn=>kk n (by simp[hn])),h5,fun n hn=>by have:=h6 n hn;omega⟩,⟨e1,by omega,e3,by omega,e5,e6,e7,e8⟩⟩
theorem DeT.sm (k:DeT lo p bb q6 q7 u h js vs bs r) (k':RdS h' p bb r') (m:Mv h h' [p] [p]):DeT lo p bb q6 q7 u h' js vs bs r':=k.mv k' m.nx (fun n hn hne=>m.keep n hn (by simpa using hne))
theorem DeT.blk (k:DeT lo p bb q6 q7 u hi js vs bs r) (k':RdS h p bb r') (hn:hi.next<=h.next) (hk:∀ n,n<hi.next->n≠p->h.get n=hi.get n) (hl:bs.length<=1000) {row:List SV} {x:Ms.Blk} {ms:List Nat} (hr:row.length=3) (hx:OB h row x ms) (hm:ms.Nodup) (hms:∀ n∈ms,hi.next<=n/\n<h.next) :
 ∃ a b b' c hM hN,h.get q6=some (.arr [u.1,u.2.1,a,b,u.2.2.1,u.2.2.2,c] 31)/\jjv (h.push (.arr row 54)) 54 3 72 (.s b) (.s (.slice h.next 0 1 1 true 3))=some (.s b',hM)/\Ok hM/\hM.get q6=some (.arr [u.1,u.2.1,a,b,u.2.2.1,u.2.2.2,c] 31)/\hM.put q6 (some (.arr [u.1,u.2.1,a,b',u.2.2.1,u.2.2.2,c] 31))=hN/\DeT lo p bb q6 q7 u hN js vs (bs++[x]) r'/\(∀ n,n<lo->hN.get n=h.get n)/\h.next<=hN.next:=by
 obtain⟨a,b,c,n1,n2,n3,h1,h2,h3,h4,h5,h6⟩:=k.ex
 obtain⟨e1,e2,e3,e4,e5,e6,e7,e8⟩:=k.ne
 have ok:=k'.ok
 have kk:∀ n∈n1++(n2++n3),h.get n=hi.get n:=fun n hn=>hk n (h6 n hn).2.1 (by have:=(h6 n hn).1;omega)
 have g1:=(hk q6 e2 (by omega)).trans h1
 have g2:=h2.keep (fun n hn=>kk n (by simp[hn]))
 have g3:Sl h 54 3 false (OB h) b bs n2:=h3.imp (fun n hn=>kk n (by simp[hn])) (fun row a m hm e=>e.keep (fun n hn=>kk n (by simp[hm n hn])))
 have g4:=h4.keep (fun n hn=>kk n (by simp[hn]))
 have c7:=(hk q7 e4 (by omega)).trans k.c7
 obtain⟨d1,d2,d4⟩:=f0s.1 h5
 obtain⟨d2,d5,d6⟩:=f0s.1 d2
 have bms:q6∉ms:=fun hc=>by have:=hms q6 hc;omega
 obtain⟨b',hM,hN,t1,t2,t3,t4,t5,t6,t7,t8,t9,t10⟩:=jhj (j:=3) (bytes:=72) ok g1 ⟨by omega,by omega⟩ (fun hc=>(h6 q6 (by simp[hc])).2.2.1 rfl) g3 (fun n hn=>by have:=h6 n (by simp[hn]);omega) d2 hr hx bms (fun n hn=>(hms n hn).2) (by omega) (by omega)
 have low:∀ n,n<lo->hN.get n=h.get n:=fun n hn=>t8 n (by omega) (by omega) (fun hc=>by have:=(h6 n (by simp[hc])).1;omega)
 have o1:∀ n∈n1,hN.get n=h.get n:=fun n hn=>t8 n (by have:=h6 n (by simp[hn]);omega) (h6 n (by simp[hn])).2.2.1 (fun hc=>d4 n hn n (by simp[hc]) rfl)
 have o3:∀ n∈n3,hN.get n=h.get n:=fun n hn=>t8 n (by have:=h6 n (by simp[hn]);omega) (h6 n (by simp[hn])).2.2.1 (fun hc=>d6 n hc n hn rfl)
 have om:∀ n∈ms,hN.get n=h.get n:=fun n hn=>t8 n (hms n hn).2 (fun e=>bms (e▸hn)) (fun hc=>by have:=hms n hn;have:=h6 n (by simp[hc]);omega)
 have nd0:=je7 (A:=n1) (ns:=n2) (B:=n3) (N:=hi.next) (ns':=(h.next+1)::(n2.tail++ms)) h5 (fun n hn=>(h6 n hn).2.1) (f09.2 ⟨fun hc=>by
  rcases f0f.1 hc with hc | hc
  .have:=h6 (h.next+1) (by simp[f0r hc]);omega
  .have:=hms (h.next+1) hc;omega,f0s.2 ⟨d2.sublist (f17 _),hm,fun u hu w hw e=>by
   have:=h6 u (by simp[f0r hu]);have:=hms w hw;omega⟩⟩) (fun n hn=>by
  rcases f0h.1 hn with hn | hn
  .exact .inr (by omega)
  .rcases f0f.1 hn with hn | hn
   .exact .inl (f0r hn)
   .exact .inr (hms n hn).1)
 refine⟨a,b,b',c,hM,hN,g1,t1,t2,t3,t4,⟨k'.low t5 e7 e6 low (by omega),(t8 q7 (by omega) e5 (fun hc=>(h6 q7 (by simp[hc])).2.2.2 rfl)).trans c7,⟨a,b',c,n1,_,n3,t7,g2.keep o1,t10 (fun row a m hmm e=>e.keep (fun n hn=>?_)),g4.keep o3,nd0,fun n hn=>?_⟩,⟨e1,by omega,e3,by omega,e5,e6,e7,e8⟩⟩,low,by omega⟩
 .rcases hmm n hn with hc | hc
  .exact t9 n hc
  .exact om n hc
 .rcases f0f.1 hn with hn | hn
  .have:=h6 n (by simp[hn]);omega
  .rcases f0f.1 hn with hn | hn
   .rcases f0h.1 hn with rfl | hn
    .omega
    .rcases f0f.1 hn with hn | hn
     .have:=h6 n (by simp[f0r hn]);omega
     .have:=hms n hn;omega
   .have:=h6 n (by simp[hn]);omega
end
theorem j8g {F:Fns} (f:RdF0 F) {lo p bb q6 q7:Nat} {u:SV×SV×SV×SV} {h:Hp} {js vs:List Nat} {bs:List Ms.Blk} {r:Rd} (hl:bs.length<256) (k:DeT lo p bb q6 q7 u h js vs bs r) :
 WC (FW F) 22 [.s (.ptr q7 0),.s (.ptr q6 0)] h (fun _ h'=>DeT lo p bb q6 q7 u h' js vs (bs++[(j41 r).1]) (j41 r).2/\(∀ n,n<lo->n≠p->h'.get n=h.get n)/\h.next<=h'.next):=by
 have fu:=f.up
 refine jan (fu.x _ rfl _ _) ((congrFun fu.t _).trans ql6) rfl ?_
 unfold qa4
 have ok:=k.rd.ok
 have c7:=k.c7
 obtain⟨e1,e2,e3,e4,e5,e6,e7,e8⟩:=k.ne
 simp(disch:=first|omega|rfl) only[go_sem,c7]
 refine WC.imp (qer f k.rd) ?_
 rintro _ hA ⟨row,ns,rfl,hrow,hox,hnd,hns,kA,mA⟩
 have okA:=kA.ok
 have nA:=mA.nx
 obtain⟨x0,x1,x2,rfl⟩:∃ x0 x1 x2,row=[x0,x1,x2]:=by
  match row,hrow with
  | [x0,x1,x2],_=>exact⟨x0,x1,x2,rfl⟩
 obtain⟨hB,eB,okB,nB,xB,gB⟩:=jhi okA [.nilSlice,.nilSlice,.nilSlice] [x0,x1,x2] 54
 have kB:=kA.keep okB gB (by omega)
 obtain⟨a,b,b',c,hM,hN,t1,t2,okM,t3,t4,kN,t5,t6⟩:=k.blk kB (by omega) (fun n hn hne=>(gB n (by omega)).trans (mA.keep n hn (by simpa using hne))) (by omega) rfl (hox.keep (fun n hn=>gB n (hns n hn).2)) hnd (fun n hn=>by have:=hns n hn;omega)
 have okN:=kN.rd.ok
 simp(disch:=first|omega|rfl) only[go_sem,eB,t1,xB,t2,t3,t4]
 exact⟨kN,fun n hn hne=>(t5 n hn).trans ((gB n (by omega)).trans (mA.keep n (by omega) (by simpa using hne))),by omega⟩
structure DcS (p bb q6 q7 g:Nat) (h:Hp) (cells:List SV) (r:Rd):Prop where
 rd:RdS h p bb r
 c7:h.get q7=some (.arr [.ptr p 0] 55)
 c6:h.get q6=some (.arr cells 31)
 c0:h.get g=some (.arr [.int .i64 0,.int .i64 0,.nilSlice,.nilSlice,.int .i64 0,.int .i64 0,.nilSlice] 31)
 ne:q7≠p/\g≠p/\g<q6/\q7<q6/\p<q6/\bb<q6/\q6<h.next
theorem DcS.sm {p bb q6 q7:Nat} {h h':Hp} {r r':Rd} (k:DcS p bb q6 q7 g h cells r) (k':RdS h' p bb r') (m:Mv h h' [p] [p]):DcS p bb q6 q7 g h' cells r':=by
 obtain⟨a1,a2,a3,a4,a5,a6,a7⟩:=k.ne
 have nx:=m.nx
 exact⟨k',(m.keep q7 (by omega) (by simpa using a1)).trans k.c7,(m.keep q6 a7 (by simp;omega)).trans k.c6,(m.keep g (by omega) (by simpa using a2)).trans k.c0,⟨a1,a2,a3,a4,a5,a6,by omega⟩⟩
theorem DcS.put {p bb q6 q7:Nat} {h:Hp} {r:Rd} (k:DcS p bb q6 q7 g h cells r) (cells':List SV):∃ hN,h.put q6 (some (.arr cells' 31))=hN/\DcS p bb q6 q7 g hN cells' r:=by
 obtain⟨a1,a2,a3,a4,a5,a6,a7⟩:=k.ne
 obtain⟨hN,eN,okN,nN,xN,gN⟩:=jrx k.rd.ok (b:=q6) (by omega) (some (.arr cells' 31))
 exact⟨hN,eN,⟨k.rd.low (lo:=q6) okN a5 a6 (fun n hn=>gN n (by omega)) (by omega),(gN q7 (by omega)).trans k.c7,xN,(gN g (by omega)).trans k.c0,⟨a1,a2,a3,a4,a5,a6,by omega⟩⟩⟩
theorem RdF0.up1 {F:Fns} (f:RdF0 F):RdF0 (BX noB j8f F):=by
 refine⟨fun g hg vs h=>?_,f.t⟩
 have h1:Nat.beq g j8f.f=false:=by
  cases e:Nat.beq g j8f.f with
  | false=>rfl
  | true=>have:=f0k e;subst this;exact absurd hg (by decide)
 exact(jd5 h1).trans (f.x g hg vs h)
end Go.Proofs.Ytkplfnkgodnmaaa.Ev
