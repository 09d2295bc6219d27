/- A reader of bytes: a block as it grows. -/
import Derived.Test.YtkeenpohacdanaaFo
namespace Go.Proofs.Ytkeenpohacdanaa.Ev
open Go Go.RowKit Go.Proofs.Ytkeenpohacdanaa.Ms
set_option linter.all false
set_option maxRecDepth 100000
set_option maxHeartbeats 4000000
variable {l ms:List Nat} {row cells:List SV} {g:Nat}
structure BlS (lo p bb bx q3:Nat) (h:Hp) (ps:List Nat) (is:List Ms.Ins) (es:List Ms.Edg) (r:Rd):Prop where
 rd:RdS h p bb r
 c3:h.get q3=some (.arr [.ptr p 0] 87)
 ex:∃ a b c n1 n2 n3,h.get bx=some (.arr [a,b,c] 36)/\Sl h 3 1 false EI a ps n1/\Sl h 44 3 false (OX h) b is n2/\Sl h 73 2 false (OE h) c es n3/\(n1++(n2++n3)).Nodup/\∀ n∈n1++(n2++n3),lo<=n/\n<h.next/\n≠bx/\n≠q3
 ne:lo<=bx/\bx<h.next/\q3≠p/\q3<h.next/\q3≠bx/\bb<lo/\p<lo/\1<=lo
section
variable {lo p bb bx q3:Nat} {h h':Hp} {ps:List Nat} {is:List Ms.Ins} {es:List Ms.Edg} {r r':Rd}
theorem BlS.mv (k:BlS lo p bb bx q3 h ps is es r) (k':RdS h' p bb r') (hn:h.next<=h'.next) (hk:∀ n,n<h.next->n≠p->h'.get n=h.get n):BlS lo p bb bx q3 h' ps is es r':=by
 obtain⟨a,b,c,n1,n2,n3,h1,h2,h3,h4,h5,h6⟩:=k.ex
 obtain⟨e1,e2,e3,e4,e5,e6,e7,e8⟩:=k.ne
 have kk:∀ n∈n1++(n2++n3),h'.get n=h.get n:=fun n hn=>hk n (h6 n hn).2.1 (by have:=(h6 n hn).1;omega)
 exact⟨k',(hk q3 e4 (by omega)).trans k.c3,⟨a,b,c,n1,n2,n3,(hk bx e2 (by omega)).trans h1,h2.keep (fun n hn=>kk n (by simp[hn])),h3.imp (fun n hn=>kk n (by simp[hn])) (fun row a m hm e=>e.keep (fun n hn=>kk n (by simp[hm n hn]))),h4.imp (fun n hn=>kk n (by simp[hn])) (fun row a m hm e=>e.keep (fun n hn=>kk n (by simp[hm n hn]))),h5,fun n hn=>by have:=h6 n hn;omega⟩,⟨e1,by omega,e3,by omega,e5,e6,e7,e8⟩⟩
theorem BlS.sm (k:BlS lo p bb bx q3 h ps is es r) (k':RdS h' p bb r') (m:Mv h h' [p] [p]):BlS lo p bb bx q3 h' ps is es r':=k.mv k' m.nx (fun n hn hne=>m.keep n hn (by simpa using hne))
variable {hi:Hp}
theorem BlS.ins (k:BlS lo p bb bx q3 hi ps is es r) (k':RdS h p bb r') (hn:hi.next<=h.next) (hk:∀ n,n<hi.next->n≠p->h.get n=hi.get n) (hl:is.length<=1000) {x:Ms.Ins} (hr:row.length=3) (hx:OX h row x ms) (hm:ms.Nodup) (hms:∀ n∈ms,hi.next<=n/\n<h.next) :
 ∃ a b c b' hM hN,h.get bx=some (.arr [a,b,c] 36)/\jk7 (h.push (.arr row 44)) 44 3 56 (.s b) (.s (.slice h.next 0 1 1 true 3))=some (.s b',hM)/\Ok hM/\hM.get bx=some (.arr [a,b,c] 36)/\hM.put bx (some (.arr [a,b',c] 36))=hN/\BlS lo p bb bx q3 hN ps (is++[x]) es r'/\(∀ n,n<lo->hN.get n=h.get n)/\h.next<=hN.next:=by
 obtain⟨a,b,c,n1,n2,n3,h1,h2,h3,h4,h5,h6⟩:=k.ex
 obtain⟨e1,e2,e3,e4,e5,e6,e7,e8⟩:=k.ne
 have ok:=k'.ok
 have kk:∀ n∈n1++(n2++n3),h.get n=hi.get n:=fun n hn=>hk n (h6 n hn).2.1 (by have:=(h6 n hn).1;omega)
 have g1:=(hk bx e2 (by omega)).trans h1
 have g2:=h2.keep (fun n hn=>kk n (by simp[hn]))
 have g3:Sl h 44 3 false (OX h) b is n2:=h3.imp (fun n hn=>kk n (by simp[hn])) (fun row a m hm e=>e.keep (fun n hn=>kk n (by simp[hm n hn])))
 have g4:Sl h 73 2 false (OE h) c es n3:=h4.imp (fun n hn=>kk n (by simp[hn])) (fun row a m hm e=>e.keep (fun n hn=>kk n (by simp[hm n hn])))
 have c3:=(hk q3 e4 (by omega)).trans k.c3
 obtain⟨d1,d23,d4⟩:=f0m.1 h5
 obtain⟨d2,d3,d5⟩:=f0m.1 d23
 have bms:bx∉ms:=fun hc=>by have:=hms bx hc;omega
 obtain⟨b',hM,hN,t1,t2,t3,t4,t5,t6,t7,t8,t9,t10⟩:=jqx (j:=1) (bytes:=56) ok g1 ⟨by omega,by omega⟩ (fun hc=>(h6 bx (by simp[hc])).2.2.1 rfl) g3 (fun n hn=>by have:=h6 n (by simp[hn]);omega) d2 hr hx bms (fun n hn=>(hms n hn).2) (by omega) (by omega)
 have low:∀ n,n<lo->hN.get n=h.get n:=fun n hn=>t8 n (by omega) (by omega) (fun hc=>by have:=(h6 n (by simp[hc])).1;omega)
 have o1:∀ n∈n1,hN.get n=h.get n:=fun n hn=>t8 n (by have:=h6 n (by simp[hn]);omega) (h6 n (by simp[hn])).2.2.1 (fun hc=>d4 n hn n (by simp[hc]) rfl)
 have o3:∀ n∈n3,hN.get n=h.get n:=fun n hn=>t8 n (by have:=h6 n (by simp[hn]);omega) (h6 n (by simp[hn])).2.2.1 (fun hc=>d5 n hc n hn rfl)
 have om:∀ n∈ms,hN.get n=h.get n:=fun n hn=>t8 n (hms n hn).2 (fun e=>bms (e▸hn)) (fun hc=>by have:=hms n hn;have:=h6 n (by simp[hc]);omega)
 have nd:=jdp (A:=n1) (ns:=n2) (B:=n3) (N:=hi.next) (ns':=(h.next+1)::(n2.tail++ms)) h5 (fun n hn=>(h6 n hn).2.1) (f0t.2 ⟨fun hc=>by
  rcases f0d.1 hc with hc | hc
  .have:=h6 (h.next+1) (by simp[f0h hc]);omega
  .have:=hms (h.next+1) hc;omega,f0m.2 ⟨d2.sublist (f27 _),hm,fun u hu w hw e=>by
   have:=h6 u (by simp[f0h hu]);have:=hms w hw;omega⟩⟩) (fun n hn=>by
  rcases f0f.1 hn with hn | hn
  .exact .inr (by omega)
  .rcases f0d.1 hn with hn | hn
   .exact .inl (f0h hn)
   .exact .inr (hms n hn).1)
 refine⟨a,b,c,b',hM,hN,g1,t1,t2,t3,t4,⟨k'.low t5 e7 e6 low (by omega),(t8 q3 (by omega) e5 (fun hc=>(h6 q3 (by simp[hc])).2.2.2 rfl)).trans c3,⟨a,b',c,n1,_,n3,t7,g2.keep o1,t10 (fun row a m hmm e=>e.keep (fun n hn=>?_)),g4.imp o3 (fun row a m hmm e=>e.keep (fun n hn=>o3 n (hmm n hn))),nd,fun n hn=>?_⟩,⟨e1,by omega,e3,by omega,e5,e6,e7,e8⟩⟩,low,by omega⟩
 .rcases hmm n hn with hc | hc
  .exact t9 n hc
  .exact om n hc
 .rcases f0d.1 hn with hn | hn
  .have:=h6 n (by simp[hn]);omega
  .rcases f0d.1 hn with hn | hn
   .rcases f0f.1 hn with rfl | hn
    .omega
    .rcases f0d.1 hn with hn | hn
     .have:=h6 n (by simp[f0h hn]);omega
     .have:=hms n hn;omega
   .have:=h6 n (by simp[hn]);omega
theorem BlS.edg (k:BlS lo p bb bx q3 hi ps is es r) (k':RdS h p bb r') (hn:hi.next<=h.next) (hk:∀ n,n<hi.next->n≠p->h.get n=hi.get n) (hl:es.length<=1000) {x:Ms.Edg} (hr:row.length=2) (hx:OE h row x ms) (hm:ms.Nodup) (hms:∀ n∈ms,hi.next<=n/\n<h.next) :
 ∃ a b c c' hM hN,h.get bx=some (.arr [a,b,c] 36)/\jk7 (h.push (.arr row 73)) 73 2 32 (.s c) (.s (.slice h.next 0 1 1 true 2))=some (.s c',hM)/\Ok hM/\hM.get bx=some (.arr [a,b,c] 36)/\hM.put bx (some (.arr [a,b,c'] 36))=hN/\BlS lo p bb bx q3 hN ps is (es++[x]) r'/\(∀ n,n<lo->hN.get n=h.get n)/\h.next<=hN.next:=by
 obtain⟨a,b,c,n1,n2,n3,h1,h2,h3,h4,h5,h6⟩:=k.ex
 obtain⟨e1,e2,e3,e4,e5,e6,e7,e8⟩:=k.ne
 have ok:=k'.ok
 have kk:∀ n∈n1++(n2++n3),h.get n=hi.get n:=fun n hn=>hk n (h6 n hn).2.1 (by have:=(h6 n hn).1;omega)
 have g1:=(hk bx e2 (by omega)).trans h1
 have g2:=h2.keep (fun n hn=>kk n (by simp[hn]))
 have g3:Sl h 44 3 false (OX h) b is n2:=h3.imp (fun n hn=>kk n (by simp[hn])) (fun row a m hm e=>e.keep (fun n hn=>kk n (by simp[hm n hn])))
 have g4:Sl h 73 2 false (OE h) c es n3:=h4.imp (fun n hn=>kk n (by simp[hn])) (fun row a m hm e=>e.keep (fun n hn=>kk n (by simp[hm n hn])))
 have c3:=(hk q3 e4 (by omega)).trans k.c3
 obtain⟨d1,d23,d4⟩:=f0m.1 h5
 obtain⟨d2,d3,d5⟩:=f0m.1 d23
 have bms:bx∉ms:=fun hc=>by have:=hms bx hc;omega
 obtain⟨c',hM,hN,t1,t2,t3,t4,t5,t6,t7,t8,t9,t10⟩:=jqx (j:=2) (bytes:=32) ok g1 ⟨by omega,by omega⟩ (fun hc=>(h6 bx (by simp[hc])).2.2.1 rfl) g4 (fun n hn=>by have:=h6 n (by simp[hn]);omega) d3 hr hx bms (fun n hn=>(hms n hn).2) (by omega) (by omega)
 have low:∀ n,n<lo->hN.get n=h.get n:=fun n hn=>t8 n (by omega) (by omega) (fun hc=>by have:=(h6 n (by simp[hc])).1;omega)
 have o1:∀ n∈n1,hN.get n=h.get n:=fun n hn=>t8 n (by have:=h6 n (by simp[hn]);omega) (h6 n (by simp[hn])).2.2.1 (fun hc=>d4 n hn n (by simp[hc]) rfl)
 have o2:∀ n∈n2,hN.get n=h.get n:=fun n hn=>t8 n (by have:=h6 n (by simp[hn]);omega) (h6 n (by simp[hn])).2.2.1 (fun hc=>d5 n hn n hc rfl)
 have om:∀ n∈ms,hN.get n=h.get n:=fun n hn=>t8 n (hms n hn).2 (fun e=>bms (e▸hn)) (fun hc=>by have:=hms n hn;have:=h6 n (by simp[hc]);omega)
 have nd0:=jdp (A:=n1++n2) (ns:=n3) (B:=[]) (N:=hi.next) (ns':=(h.next+1)::(n3.tail++ms)) (by simpa[f0i] using h5) (fun n hn=>(h6 n (by simpa[f0i] using hn)).2.1) (f0t.2 ⟨fun hc=>by
  rcases f0d.1 hc with hc | hc
  .have:=h6 (h.next+1) (by simp[f0h hc]);omega
  .have:=hms (h.next+1) hc;omega,f0m.2 ⟨d3.sublist (f27 _),hm,fun u hu w hw e=>by
   have:=h6 u (by simp[f0h hu]);have:=hms w hw;omega⟩⟩) (fun n hn=>by
  rcases f0f.1 hn with hn | hn
  .exact .inr (by omega)
  .rcases f0d.1 hn with hn | hn
   .exact .inl (f0h hn)
   .exact .inr (hms n hn).1)
 have nd:(n1++(n2++((h.next+1)::(n3.tail++ms)))).Nodup:=by simpa[f0i] using nd0
 refine⟨a,b,c,c',hM,hN,g1,t1,t2,t3,t4,⟨k'.low t5 e7 e6 low (by omega),(t8 q3 (by omega) e5 (fun hc=>(h6 q3 (by simp[hc])).2.2.2 rfl)).trans c3,⟨a,b,c',n1,n2,_,t7,g2.keep o1,g3.imp o2 (fun row a m hmm e=>e.keep (fun n hn=>o2 n (hmm n hn))),t10 (fun row a m hmm e=>e.keep (fun n hn=>?_)),nd,fun n hn=>?_⟩,⟨e1,by omega,e3,by omega,e5,e6,e7,e8⟩⟩,low,by omega⟩
 .rcases hmm n hn with hc | hc
  .exact t9 n hc
  .exact om n hc
 .rcases f0d.1 hn with hn | hn
  .have:=h6 n (by simp[hn]);omega
  .rcases f0d.1 hn with hn | hn
   .have:=h6 n (by simp[hn]);omega
   .rcases f0f.1 hn with rfl | hn
    .omega
    .rcases f0d.1 hn with hn | hn
     .have:=h6 n (by simp[f0h hn]);omega
     .have:=hms n hn;omega
end
attribute [local go_sem] Int.reduceToNat reduceCtorEq Nat.reduceAdd Nat.reduceMul Nat.reduceEqDiff Int.reduceEq Int.reduceLT Int.reduceLE Int.reduceNeg Int.reduceAdd Int.reduceSub Int.reduceMul Int.reduceNe
attribute [local go_sem ↓] reduceIte
theorem qgr:∀ {rows:List (List SV)} {l nss:List Nat},Rows 1 EI rows l nss->nss=[]
 | _,_,_,.nil=>rfl
 | _,_,_,.cons _ h2 h3=>by rw[h2.2,qgr h3];rfl
theorem qur {h:Hp} {ty:Nat} {ex:Bool} {x:SV} {ns:List Nat} (s:Sl h ty 1 ex EI x l ns):ns.Nodup:=by
 rcases s with⟨_,_,rfl⟩ | ⟨_,b,rows,nss,_,_,hR,rfl⟩
 .exact .nil
 .rw [qgr hR];simp
theorem qko {F:Fns} (f:RdF0 F) {lo p bb bx q3:Nat} {h:Hp} {ps:List Nat} {is:List Ms.Ins} {es:List Ms.Edg} {r:Rd} (hl:is.length<256) (k:BlS lo p bb bx q3 h ps is es r) :
 WC F 62 [.s (.ptr q3 0),.s (.ptr bx 0)] h (fun _ h'=>BlS lo p bb bx q3 h' ps (is++[(j00 r).1]) es (j00 r).2/\(∀ n,n<lo->n≠p->h'.get n=h.get n)/\h.next<=h'.next):=by
 refine jax (f.x _ rfl _ _) ((congrFun f.t _).trans qui) rfl ?_
 unfold qf6
 have ok:=k.rd.ok
 have c3:=k.c3
 obtain⟨e1,e2,e3,e4,e5,e6,e7,e8⟩:=k.ne
 simp(disch:=first|omega|rfl) only[go_sem,c3]
 refine WC.imp (qkn f k.rd) ?_
 rintro _ hA ⟨row,ns,rfl,hrow,hox,hnd,hns,kA,mA⟩
 have okA:=kA.ok
 have nA:=mA.nx
 obtain⟨x0,x1,x2,rfl⟩:∃ x0 x1 x2,row=[x0,x1,x2]:=by
  match row,hrow with
  | [x0,x1,x2],_=>exact⟨x0,x1,x2,rfl⟩
 obtain⟨hB,eB,okB,nB,xB,gB⟩:=jb5 okA [.int .i64 0,.nilSlice,.nilSlice] [x0,x1,x2] 44
 have kB:=kA.keep okB gB (by omega)
 obtain⟨a,b,c,b',hM,hN,t1,t2,okM,t3,t4,kN,t5,t6⟩:=k.ins kB (by omega) (fun n hn hne=>(gB n (by omega)).trans (mA.keep n hn (by simpa using hne))) (by omega) rfl (hox.keep (fun n hn=>gB n (hns n hn).2)) hnd (fun n hn=>by have:=hns n hn;omega)
 have okN:=kN.rd.ok
 simp(disch:=first|omega|rfl) only[go_sem,eB,t1,xB,t2,t3,t4]
 exact⟨kN,fun n hn hne=>(t5 n hn).trans ((gB n (by omega)).trans (mA.keep n (by omega) (by simpa using hne))),by omega⟩
theorem qkp {F:Fns} (f:RdF0 F) {lo p bb bx q3:Nat} {h:Hp} {ps:List Nat} {is:List Ms.Ins} {es:List Ms.Edg} {r:Rd} (hl:es.length<256) (k:BlS lo p bb bx q3 h ps is es r) :
 WC (FW F) 64 [.s (.ptr q3 0),.s (.ptr bx 0)] h (fun _ h'=>BlS lo p bb bx q3 h' ps is (es++[(j5n r).1]) (j5n r).2/\(∀ n,n<lo->n≠p->h'.get n=h.get n)/\h.next<=h'.next):=by
 have fu:=f.up
 refine jax (fu.x _ rfl _ _) ((congrFun fu.t _).trans quj) rfl ?_
 unfold qf7
 have ok:=k.rd.ok
 have c3:=k.c3
 obtain⟨e1,e2,e3,e4,e5,e6,e7,e8⟩:=k.ne
 simp(disch:=first|omega|rfl) only[go_sem,c3]
 refine WC.imp (jd2 fu k.rd) ?_
 rintro _ hA ⟨rfl,kA,mA⟩
 have okA:=kA.ok
 have nA:=mA.nx
 obtain⟨r1,w1⟩:∃ r1,(smF r).2=r1:=⟨_,rfl⟩
 obtain⟨v1,w2⟩:∃ v1,(smF r).1=v1:=⟨_,rfl⟩
 rw[w1] at kA
 rw[w2]
 obtain⟨hB,eB,okB,nB,xB,gB⟩:=jb5 okA [.int .i64 0,.nilSlice] [si v1,.nilSlice] 73
 have kB:=kA.keep okB gB (by omega)
 have c3B:=(gB q3 (by omega)).trans ((mA.keep q3 e4 (by simp;omega)).trans c3)
 simp(disch:=first|omega|rfl) only[go_sem,eB,c3B]
 refine WC.imp (j07 f kB) ?_
 rintro _ hC ⟨x,ns,rfl,sC,hns,kC,mC⟩
 have okC:=kC.ok
 have nC:=mC.nx
 have hAp:hA.next≠p:=by have:=kA.p1;omega
 have xC:=(mC.keep hA.next (by omega) (by simpa using hAp)).trans xB
 obtain⟨hD,eD,okD,nD,xD,gD⟩:=j5p okC (b:=hA.next) (by have:=okA.pos;omega) (some (.arr [si v1,x] 73))
 have sD:Sl hD 3 1 false EI x (jdl r1).1 ns:=sC.keep (fun n hn=>gD n (by have:=hns n hn;omega))
 have hnd:=qur sC
 have kD:RdS hD p bb (jdl r1).2:=kC.low (lo:=lo) okD e7 e6 (fun n hn=>gD n (by omega)) (by omega)
 obtain⟨a,b,c,c',hM,hN,t1,t2,okM,t3,t4,kN,t5,t6⟩:=k.edg kD (by omega) (fun n hn hne=>(gD n (by omega)).trans ((mC.keep n (by omega) (by simpa using hne)).trans ((gB n (by omega)).trans (mA.keep n hn (by simpa using hne))))) (by omega) rfl (show OE hD [si v1,x] ⟨v1,(jdl r1).1⟩ ns from ⟨x,rfl,sD⟩) hnd (fun n hn=>by have:=hns n hn;omega)
 have okN:=kN.rd.ok
 simp(disch:=first|omega|rfl) only[go_sem,xC,eD,xD,t1,t2,t3,t4]
 have ee:j5n r=(⟨v1,(jdl r1).1⟩,(jdl r1).2):=by
  show((⟨(smF r).1,(jdl (smF r).2).1⟩:Ms.Edg),(jdl (smF r).2).2)=_
  rw[w1,w2]
 rw[ee]
 exact⟨kN,fun n hn hne=>(t5 n hn).trans ((gD n (by omega)).trans ((mC.keep n (by omega) (by simpa using hne)).trans ((gB n (by omega)).trans (mA.keep n (by omega) (by simpa using hne))))),by omega⟩
def BlR (h:Hp) (p bb:Nat) (x:Ms.Blk) (r:Rd):AV->Hp->Prop:=fun v h'=>∃ row ns,v=.agg row/\row.length=3/\OB h' row x ns/\ns.Nodup/\(∀ n∈ns,h.next<=n/\n<h'.next)/\RdS h' p bb r/\Mv h h' [p] [p]
theorem qkq {F:Fns} (f:RdF0 F) {p bb:Nat} {h:Hp} {r:Rd} (k:RdS h p bb r):WC (FW F) 42 [.s (.ptr p 0)] h (BlR h p bb (j3m r).1 (j3m r).2):=by
 have fu:=f.up
 refine jax (fu.x _ rfl _ _) ((congrFun fu.t _).trans quh) rfl ?_
 unfold qf5
 have ok:=k.ok
 have hpos:=ok.pos
 obtain⟨q1,q2,q3,q4⟩:=k.p1
 obtain⟨hA,eA,okA,nA,xA,gA⟩:=jd4 ok [.ptr p 0] 87
 obtain⟨hB,eB,okB,nB,xB,gB⟩:=jd4 okA [.nilSlice,.nilSlice,.nilSlice] 36
 have yA:=(gB h.next (by omega)).trans xA
 rw[nA] at xB
 have lowB:∀ n,n<h.next->hB.get n=h.get n:=fun n hn=>(gB n (by omega)).trans (gA n hn)
 have kB:=k.keep okB lowB (by omega)
 obtain⟨r1,w1⟩:∃ r1,(jdl r).2=r1:=⟨_,rfl⟩
 obtain⟨l1,w2⟩:∃ l1,(jdl r).1=l1:=⟨_,rfl⟩
 simp(disch:=first|omega|rfl) only[go_sem,eA,nA,eB,yA]
 refine WC.imp (j07 f kB) ?_
 rintro _ hC ⟨x,ns,rfl,sC,hns,kC,mC⟩
 rw[w1] at kC
 rw[w2] at sC
 have okC:=kC.ok
 have nC:=mC.nx
 have yC:=(mC.keep h.next (by omega) (by simp;omega)).trans yA
 have zC:=(mC.keep (h.next+1) (by omega) (by simp;omega)).trans xB
 obtain⟨hD,eD,okD,nD,xD,gD⟩:=jb5 okC [.nilSlice,.nilSlice,.nilSlice] [x,.nilSlice,.nilSlice] 36
 have kD:=kC.keep okD gD (by omega)
 have yD:=(gD h.next (by omega)).trans yC
 have zD:=(gD (h.next+1) (by omega)).trans zC
 have i0:BlS (h.next+2) p bb hC.next h.next hD l1 [] [] r1:=⟨kD,yD,⟨x,_,_,ns,[],[],xD,sC.keep (fun n hn=>gD n (hns n hn).2),.nil,.nil,by simpa using qur sC,fun n hn=>by have:=hns n (by simpa using hn);omega⟩,⟨by omega,by omega,by omega,by omega,by omega,by omega,by omega,by omega⟩⟩
 simp(disch:=first|omega|rfl) only[go_sem,eD,yD]
 refine WC.imp (jvz fu (P:=j00) (I:=fun l r h'=>BlS (h.next+2) p bb hC.next h.next h' l1 l [] r/\(∀ n,n<h.next+2->n≠p->h'.get n=hD.get n)/\hD.next<=h'.next) (fun l r h' i=>i.1.rd) (fun l r h' hl i _=>?_) (fun l r r' h' h2 i k' m=>⟨i.1.sm k' m,fun n hn hne=>(m.keep n (by have:=i.2.2;omega) (by simpa using hne)).trans (i.2.1 n hn hne),by have:=m.nx;have:=i.2.2;omega⟩) ⟨i0,fun n hn _=>rfl,f0e _⟩) ?_
 .exact WC.imp (qko fu hl i.1) (fun v h2 hh=>⟨hh.1,fun n hn hne=>(hh.2.1 n hn hne).trans (i.2.1 n hn hne),by have:=i.2.2;have:=hh.2.2;omega⟩)
 obtain⟨r2,w3⟩:∃ r2,(eachR j00 r1).2=r2:=⟨_,rfl⟩
 obtain⟨l2,w4⟩:∃ l2,(eachR j00 r1).1=l2:=⟨_,rfl⟩
 rintro _ hE ⟨i1,lo1,nx1⟩
 rw[w3,w4] at i1
 have okE:=i1.rd.ok
 have yE:=i1.c3
 simp(disch:=first|omega|rfl) only[go_sem,yE]
 refine WC.imp (jvz fu (P:=j5n) (I:=fun l r h'=>BlS (h.next+2) p bb hC.next h.next h' l1 l2 l r/\(∀ n,n<h.next+2->n≠p->h'.get n=hE.get n)/\hE.next<=h'.next) (fun l r h' i=>i.1.rd) (fun l r h' hl i _=>?_) (fun l r r' h' h2 i k' m=>⟨i.1.sm k' m,fun n hn hne=>(m.keep n (by have:=i.2.2;omega) (by simpa using hne)).trans (i.2.1 n hn hne),by have:=m.nx;have:=i.2.2;omega⟩) ⟨i1,fun n hn _=>rfl,f0e _⟩) ?_
 .exact WC.imp (qkp f hl i.1) (fun v h2 hh=>⟨hh.1,fun n hn hne=>(hh.2.1 n hn hne).trans (i.2.1 n hn hne),by have:=i.2.2;have:=hh.2.2;omega⟩)
 obtain⟨r3,w5⟩:∃ r3,(eachR j5n r2).2=r3:=⟨_,rfl⟩
 obtain⟨l3,w6⟩:∃ l3,(eachR j5n r2).1=l3:=⟨_,rfl⟩
 rintro _ hG ⟨i2,lo2,nx2⟩
 rw[w5,w6] at i2
 have okG:=i2.rd.ok
 obtain⟨a,b,c,n1,n2,n3,h1,h2,h3,h4,h5,h6⟩:=i2.ex
 have zG:hG.get (h.next+1)=some (.arr [.nilSlice,.nilSlice,.nilSlice] 36):=(lo2 _ (by omega) (by omega)).trans ((lo1 _ (by omega) (by omega)).trans zD)
 obtain⟨hH,eH,okH,nH,xH,gH⟩:=j5p okG (b:=h.next+1) (by omega) (some (.arr [a,b,c] 36))
 simp(disch:=first|omega|rfl) only[go_sem,h1,zG,eH,xH]
 have ei:j3m r=(⟨l1,l2,l3⟩,r3):=by
  show((⟨(jdl r).1,(eachR j00 (jdl r).2).1,(eachR j5n (eachR j00 (jdl r).2).2).1⟩:Ms.Blk),(eachR j5n (eachR j00 (jdl r).2).2).2)=_
  rw[w1,w2,w3,w4,w5,w6]
 rw[ei]
 have hk:∀ n∈n1++(n2++n3),hH.get n=hG.get n:=fun n hn=>gH n (by have:=h6 n hn;omega)
 refine⟨_,n1++(n2++n3),rfl,rfl,⟨a,b,c,n1,n2,n3,false,rfl,h2.keep (fun n hn=>hk n (by simp[hn])),h3.imp (fun n hn=>hk n (by simp[hn])) (fun row a m hm e=>e.keep (fun n hn=>hk n (by simp[hm n hn]))),h4.imp (fun n hn=>hk n (by simp[hn])) (fun row a m hm e=>e.keep (fun n hn=>hk n (by simp[hm n hn]))),rfl⟩,h5,fun n hn=>by have:=h6 n hn;omega,i2.rd.low (lo:=h.next) okH (by omega) (by omega) (fun n hn=>gH n (by omega)) (by omega),⟨okH,by omega,fun n hn=>.inl hn,fun n hn hne=>?_⟩⟩
 have hne':n≠p:=by simpa using hne
 exact(gH n (by omega)).trans ((lo2 n (by omega) hne').trans ((lo1 n (by omega) hne').trans ((gD n (by omega)).trans ((mC.keep n (by omega) hne).trans (lowB n hn)))))
structure DeS (lo p bb q6 q7:Nat) (u:SV×SV×SV×SV×SV) (h:Hp) (vs:List Nat) (bs:List Ms.Blk) (r:Rd):Prop where
 rd:RdS h p bb r
 c7:h.get q7=some (.arr [.ptr p 0] 87)
 ex:∃ a b n1 n2,h.get q6=some (.arr [u.1,u.2.1,a,b,u.2.2.1,u.2.2.2.1,u.2.2.2.2] 55)/\Sl h 3 1 false EI a vs n1/\Sl h 36 3 false (OB h) b bs n2/\(n1++n2).Nodup/\∀ n∈n1++n2,lo<=n/\n<h.next/\n≠q6/\n≠q7
 ne:lo<=q6/\q6<h.next/\q7≠p/\q7<h.next/\q7≠q6/\bb<lo/\p<lo/\1<=lo
section
variable {lo p bb q6 q7:Nat} {u:SV×SV×SV×SV×SV} {h h' hi:Hp} {vs:List Nat} {bs:List Ms.Blk} {r r':Rd}
theorem DeS.mv (k:DeS lo p bb q6 q7 u h vs bs r) (k':RdS h' p bb r') (hn:h.next<=h'.next) (hk:∀ n,n<h.next->n≠p->h'.get n=h.get n):DeS lo p bb q6 q7 u h' vs bs r':=by
 obtain⟨a,b,n1,n2,h1,h2,h3,h5,h6⟩:=k.ex
 obtain⟨e1,e2,e3,e4,e5,e6,e7,e8⟩:=k.ne
 have kk:∀ n∈n1++n2,h'.get n=h.get n:=fun n hn=>hk n (h6 n hn).2.1 (by have:=(h6 n hn).1;omega)
 exact⟨k',(hk q7 e4 (by omega)).trans k.c7,⟨a,b,n1,n2,(hk q6 e2 (by omega)).trans h1,h2.keep (fun n hn=>kk n (by simp[hn])),h3.imp (fun n hn=>kk n (by simp[hn])) (fun row a m hm e=>e.keep (fun n hn=>kk n (by simp[hm n hn]))),h5,fun n hn=>by have:=h6 n hn;omega⟩,⟨e1,by omega,e3,by omega,e5,e6,e7,e8⟩⟩
theorem DeS.sm (k:DeS lo p bb q6 q7 u h vs bs r) (k':RdS h' p bb r') (m:Mv h h' [p] [p]):DeS lo p bb q6 q7 u h' vs bs r':=k.mv k' m.nx (fun n hn hne=>m.keep n hn (by simpa using hne))
theorem DeS.blk (k:DeS lo p bb q6 q7 u hi vs bs r) (k':RdS h p bb r') (hn:hi.next<=h.next) (hk:∀ n,n<hi.next->n≠p->h.get n=hi.get n) (hl:bs.length<=1000) {x:Ms.Blk} (hr:row.length=3) (hx:OB h row x ms) (hm:ms.Nodup) (hms:∀ n∈ms,hi.next<=n/\n<h.next) :
 ∃ a b b' hM hN,h.get q6=some (.arr [u.1,u.2.1,a,b,u.2.2.1,u.2.2.2.1,u.2.2.2.2] 55)/\jk7 (h.push (.arr row 36)) 36 3 72 (.s b) (.s (.slice h.next 0 1 1 true 3))=some (.s b',hM)/\Ok hM/\hM.get q6=some (.arr [u.1,u.2.1,a,b,u.2.2.1,u.2.2.2.1,u.2.2.2.2] 55)/\hM.put q6 (some (.arr [u.1,u.2.1,a,b',u.2.2.1,u.2.2.2.1,u.2.2.2.2] 55))=hN/\DeS lo p bb q6 q7 u hN vs (bs++[x]) r'/\(∀ n,n<lo->hN.get n=h.get n)/\h.next<=hN.next:=by
 obtain⟨a,b,n1,n2,h1,h2,h3,h5,h6⟩:=k.ex
 obtain⟨e1,e2,e3,e4,e5,e6,e7,e8⟩:=k.ne
 have ok:=k'.ok
 have kk:∀ n∈n1++n2,h.get n=hi.get n:=fun n hn=>hk n (h6 n hn).2.1 (by have:=(h6 n hn).1;omega)
 have g1:=(hk q6 e2 (by omega)).trans h1
 have g2:=h2.keep (fun n hn=>kk n (by simp[hn]))
 have g3:Sl h 36 3 false (OB h) b bs n2:=h3.imp (fun n hn=>kk n (by simp[hn])) (fun row a m hm e=>e.keep (fun n hn=>kk n (by simp[hm n hn])))
 have c7:=(hk q7 e4 (by omega)).trans k.c7
 obtain⟨d1,d2,d4⟩:=f0m.1 h5
 have bms:q6∉ms:=fun hc=>by have:=hms q6 hc;omega
 obtain⟨b',hM,hN,t1,t2,t3,t4,t5,t6,t7,t8,t9,t10⟩:=jqx (j:=3) (bytes:=72) ok g1 ⟨by omega,by omega⟩ (fun hc=>(h6 q6 (by simp[hc])).2.2.1 rfl) g3 (fun n hn=>by have:=h6 n (by simp[hn]);omega) d2 hr hx bms (fun n hn=>(hms n hn).2) (by omega) (by omega)
 have low:∀ n,n<lo->hN.get n=h.get n:=fun n hn=>t8 n (by omega) (by omega) (fun hc=>by have:=(h6 n (by simp[hc])).1;omega)
 have o1:∀ n∈n1,hN.get n=h.get n:=fun n hn=>t8 n (by have:=h6 n (by simp[hn]);omega) (h6 n (by simp[hn])).2.2.1 (fun hc=>d4 n hn n hc rfl)
 have om:∀ n∈ms,hN.get n=h.get n:=fun n hn=>t8 n (hms n hn).2 (fun e=>bms (e▸hn)) (fun hc=>by have:=hms n hn;have:=h6 n (by simp[hc]);omega)
 have nd0:=jdp (A:=n1) (ns:=n2) (B:=[]) (N:=hi.next) (ns':=(h.next+1)::(n2.tail++ms)) (by simpa using h5) (fun n hn=>(h6 n (by simpa using hn)).2.1) (f0t.2 ⟨fun hc=>by
  rcases f0d.1 hc with hc | hc
  .have:=h6 (h.next+1) (by simp[f0h hc]);omega
  .have:=hms (h.next+1) hc;omega,f0m.2 ⟨d2.sublist (f27 _),hm,fun u hu w hw e=>by
   have:=h6 u (by simp[f0h hu]);have:=hms w hw;omega⟩⟩) (fun n hn=>by
  rcases f0f.1 hn with hn | hn
  .exact .inr (by omega)
  .rcases f0d.1 hn with hn | hn
   .exact .inl (f0h hn)
   .exact .inr (hms n hn).1)
 have nd:(n1++((h.next+1)::(n2.tail++ms))).Nodup:=by simpa using nd0
 refine⟨a,b,b',hM,hN,g1,t1,t2,t3,t4,⟨k'.low t5 e7 e6 low (by omega),(t8 q7 (by omega) e5 (fun hc=>(h6 q7 (by simp[hc])).2.2.2 rfl)).trans c7,⟨a,b',n1,_,t7,g2.keep o1,t10 (fun row a m hmm e=>e.keep (fun n hn=>?_)),nd,fun n hn=>?_⟩,⟨e1,by omega,e3,by omega,e5,e6,e7,e8⟩⟩,low,by omega⟩
 .rcases hmm n hn with hc | hc
  .exact t9 n hc
  .exact om n hc
 .rcases f0d.1 hn with hn | hn
  .have:=h6 n (by simp[hn]);omega
  .rcases f0f.1 hn with rfl | hn
   .omega
   .rcases f0d.1 hn with hn | hn
    .have:=h6 n (by simp[f0h hn]);omega
    .have:=hms n hn;omega
end
theorem qkr {F:Fns} (f:RdF0 F) {lo p bb q6 q7:Nat} {u:SV×SV×SV×SV×SV} {h:Hp} {vs:List Nat} {bs:List Ms.Blk} {r:Rd} (hl:bs.length<256) (k:DeS lo p bb q6 q7 u h vs bs r) :
 WC (FW F) 41 [.s (.ptr q7 0),.s (.ptr q6 0)] h (fun _ h'=>DeS lo p bb q6 q7 u h' vs (bs++[(j3m r).1]) (j3m r).2/\(∀ n,n<lo->n≠p->h'.get n=h.get n)/\h.next<=h'.next):=by
 have fu:=f.up
 refine jax (fu.x _ rfl _ _) ((congrFun fu.t _).trans quk) rfl ?_
 unfold qf8
 have ok:=k.rd.ok
 have c7:=k.c7
 obtain⟨e1,e2,e3,e4,e5,e6,e7,e8⟩:=k.ne
 simp(disch:=first|omega|rfl) only[go_sem,c7]
 refine WC.imp (qkq f k.rd) ?_
 rintro _ hA ⟨row,ns,rfl,hrow,hox,hnd,hns,kA,mA⟩
 have okA:=kA.ok
 have nA:=mA.nx
 obtain⟨x0,x1,x2,rfl⟩:∃ x0 x1 x2,row=[x0,x1,x2]:=by
  match row,hrow with
  | [x0,x1,x2],_=>exact⟨x0,x1,x2,rfl⟩
 obtain⟨hB,eB,okB,nB,xB,gB⟩:=jb5 okA [.nilSlice,.nilSlice,.nilSlice] [x0,x1,x2] 36
 have kB:=kA.keep okB gB (by omega)
 obtain⟨a,b,b',hM,hN,t1,t2,okM,t3,t4,kN,t5,t6⟩:=k.blk kB (by omega) (fun n hn hne=>(gB n (by omega)).trans (mA.keep n hn (by simpa using hne))) (by omega) rfl (hox.keep (fun n hn=>gB n (hns n hn).2)) hnd (fun n hn=>by have:=hns n hn;omega)
 have okN:=kN.rd.ok
 simp(disch:=first|omega|rfl) only[go_sem,eB,t1,xB,t2,t3,t4]
 exact⟨kN,fun n hn hne=>(t5 n hn).trans ((gB n (by omega)).trans (mA.keep n (by omega) (by simpa using hne))),by omega⟩
theorem qks {h:Hp} (ok:Ok h) (l:List Nat) (hl:l.length<=100000):∃ x h',jk7 (h.push (.arr [] 5)) 5 1 1 (.s (.slice h.next 0 0 0 true 1)) (.s (.lst (l.map jni)))=some (.s x,h')/\Ok h'/\h.next<=h'.next/\(∀ n,n<h.next->h'.get n=h.get n)/\jsg (.s x)=some (vi l.length) /\
 (l=[]∨∃ bb mc ex cells ty,x=.slice bb 0 l.length mc ex 1/\l.length<=mc/\h.next<=bb/\bb<h'.next/\h'.get bb=some (.arr cells ty)/\∀ (i n:Nat),l[i]?=some n->cells[i]?=some (.int .u8 n)):=by
 obtain⟨hA,eA,okA,nA,xA,gA⟩:=jd4 ok ([]:List SV) 5
 rw[eA]
 have hpos:=ok.pos
 cases l with
 | nil =>
  obtain⟨hB,eB,okB,nB,xB,gB⟩:=j5p okA (b:=h.next) hpos (some (.arr [] 5))
  refine⟨.slice h.next 0 0 0 true 1,hB,?_,okB,by omega,fun n hn=>(gB n (by omega)).trans (gA n hn),rfl,.inl rfl⟩
  show ob (wr hA h.next 0 []) (fun g=>some (AV.s (.slice h.next 0 0 0 true 1),g))=_
  rw[qig okA,xA]
  show some (AV.s (.slice h.next 0 0 0 true 1),hA.put h.next (some (.arr [] 5)))=_
  rw[eB]
 | cons a l =>
  have fl:jrm 1 ((a::l).map jni)=some ((a::l).map (fun n:Nat=>SV.int .u8 n)):=by
   rw[jx6 (fun r hr=>by obtain⟨n,_,rfl⟩:=f1w.1 hr;rfl)]
   congr 1
   generalize a::l=q
   induction q with
   | nil=>rfl
   | cons b q ih=>rw[f1f,f03,ih];rfl
  obtain⟨hB,eB,okB,nB,xB,gB⟩:=jd4 okA ((a::l).map (fun n:Nat=>SV.int .u8 n)) 5
  have hll:jcl ((a::l).map jni)=l.length+1:=by rw[jbf];simp
  refine⟨.slice hA.next 0 (a::l).length (a::l).length false 1,hB,?_,okB,by omega,fun n hn=>(gB n (by omega)).trans (gA n hn),rfl,.inr ⟨hA.next,_,_,_,_,rfl,f0e _,by omega,by omega,xB,fun i n hi=>by rw[f1b,hi];rfl⟩⟩
  show ob (jrm 1 ((a::l).map jni)) (fun new=>jys hA 5 1 1 (jcl ((a::l).map jni)) (.s (.slice h.next 0 0 0 true 1)) new)=_
  rw[fl,hll]
  show oif (Nat.ble (Nat.add 0 (l.length+1)) 0) (ob (wr hA h.next (Nat.add 0 (Nat.mul 0 1)) ((a::l).map (fun n:Nat=>SV.int .u8 n))) (fun g=>some (AV.s (.slice h.next 0 (Nat.add 0 (l.length+1)) 0 true 1),g))) (jm9 1 (Nat.add 0 (l.length+1)) (jn4 hA 5 1 h.next 0 0 (l.length+1) true ((a::l).map (fun n:Nat=>SV.int .u8 n))))=_
  have e0:Nat.add 0 (l.length+1)=l.length+1:=f0x _
  have e1:Nat.ble (Nat.add 0 (l.length+1)) 0=false:=by rw[e0];rfl
  rw[e1,e0]
  show jm9 1 (l.length+1) _=_
  have hl':l.length+1<=100000:=hl
  rw[jtz (by omega) (by omega)]
  show ob (hA.get h.next) _=_
  rw[xA]
  show nw hA (jg2 [] ((a::l).map (fun n:Nat=>SV.int .u8 n))) 5 (fun k h=>some (AV.s (.slice k 0 (Nat.add 0 (l.length+1)) (Nat.add 0 (l.length+1)) false 1),h))=_
  rw[jzx okA,e0]
  show some (AV.s (.slice hA.next 0 (l.length+1) (l.length+1) false 1),hA.push (.arr ((a::l).map (fun n:Nat=>SV.int .u8 n)) 5))=_
  rw[eB]
  rfl
theorem qkt {F:Fns} (f:RdF0 F) {h:Hp} (ok:Ok h) (hl:l.length<=100000):WC F 35 [.s (.lst (l.map jni))] h (fun v h'=>∃ x,v=.s x/\Ok h'/\h.next<=h'.next/\(∀ n,n<h.next->h'.get n=h.get n)/\jsg (.s x)=some (vi l.length)/\(l=[]∨∃ bb mc ex cells ty,x=.slice bb 0 l.length mc ex 1/\l.length<=mc/\h.next<=bb/\bb<h'.next/\h'.get bb=some (.arr cells ty)/\∀ (i n:Nat),l[i]?=some n->cells[i]?=some (.int .u8 n))):=by
 refine jax (f.x _ rfl _ _) ((congrFun f.t _).trans quc) rfl ?_
 unfold qf0
 have e0:pop [AV.s (SV.lst (List.map jni l))] [AV.s (SV.lst (List.map jni l)),AV.s SV.nilSlice,AV.undef] (PO.snil false (Od.l 0) (Od.c (AV.s SV.nilSlice)))=some (vb false):=rfl
 obtain⟨x,h',t1,t2⟩:=qks ok l hl
 simp(disch:=first|omega|rfl) only[go_sem,e0]
 unfold qad
 simp(disch:=first|omega|rfl) only[go_sem,t1]
 have ok':=t2.1
 exact⟨x,rfl,t2⟩
theorem qdv {F:Fns} (f:RdF0 F) {p bb:Nat} {h:Hp} {r:Rd} (k:RdS h p bb r) (hz:(smF r).1=0) {cf:FuncId} {caps:List (Nat×Nat)}:WC F 38 [.s (.ptr p 0),.s (.func cf caps)] h (fun _ h'=>RdS h' p bb (smF r).2/\Mv h h' [p] [p]):=by
 refine jax (f.x _ rfl _ _) ((congrFun f.t _).trans qqd) rfl ?_
 unfold qah
 have ok:=k.ok
 simp(disch:=first|omega|rfl) only[go_sem]
 refine WC.imp (jd2 f k) ?_
 rintro _ hB ⟨rfl,k1,m1⟩
 have okB:=k1.ok
 rw[hz]
 simp(disch:=first|omega|rfl) only[go_sem,f13]
 rw[jag]
 unfold jqv
 simp(disch:=first|omega|rfl) only[go_sem,f0r]
 exact⟨k1,m1⟩
structure DcS (p bb q6 q7 g:Nat) (h:Hp) (cells:List SV) (r:Rd):Prop where
 rd:RdS h p bb r
 c7:h.get q7=some (.arr [.ptr p 0] 87)
 c6:h.get q6=some (.arr cells 55)
 c0:h.get g=some (.arr [.int .i64 0,.int .i64 0,.nilSlice,.nilSlice,.int .i64 0,.int .i64 0,.nilSlice] 55)
 ne:q7≠p/\g≠p/\g<q6/\q7<q6/\p<q6/\bb<q6/\q6<h.next
theorem DcS.sm {p bb q6 q7:Nat} {h h':Hp} {r r':Rd} (k:DcS p bb q6 q7 g h cells r) (k':RdS h' p bb r') (m:Mv h h' [p] [p]):DcS p bb q6 q7 g h' cells r':=by
 obtain⟨a1,a2,a3,a4,a5,a6,a7⟩:=k.ne
 have nx:=m.nx
 exact⟨k',(m.keep q7 (by omega) (by simpa using a1)).trans k.c7,(m.keep q6 a7 (by simp;omega)).trans k.c6,(m.keep g (by omega) (by simpa using a2)).trans k.c0,⟨a1,a2,a3,a4,a5,a6,by omega⟩⟩
theorem DcS.put {p bb q6 q7:Nat} {h:Hp} {r:Rd} (k:DcS p bb q6 q7 g h cells r) (cells':List SV):∃ hN,h.put q6 (some (.arr cells' 55))=hN/\DcS p bb q6 q7 g hN cells' r:=by
 obtain⟨a1,a2,a3,a4,a5,a6,a7⟩:=k.ne
 obtain⟨hN,eN,okN,nN,xN,gN⟩:=j5p k.rd.ok (b:=q6) (by omega) (some (.arr cells' 55))
 exact⟨hN,eN,⟨k.rd.low (lo:=q6) okN a5 a6 (fun n hn=>gN n (by omega)) (by omega),(gN q7 (by omega)).trans k.c7,xN,(gN g (by omega)).trans k.c0,⟨a1,a2,a3,a4,a5,a6,by omega⟩⟩⟩
def qku:AV:=.tup [(true,[.int .i64 0,.int .i64 0,.nilSlice,.nilSlice,.int .i64 0,.int .i64 0,.nilSlice]),(false,[si 5])]
theorem qdw {F:Fns} (f:RdF0 F) {h:Hp} (ok:Ok h) (hl:l.length<=20000) (hb:∀ n∈l,n<256) {r1 r2 r3 r4 r5:Rd} {v1 v2 v3 v4:Nat} (e1:smF (l,false)=(v1,r1)) (e2:smF r1=(v2,r2)) (e3:jc6 r2=(v3,r3)) (e4:jc6 r3=(v4,r4)) (e5:smF r4=(0,r5)) (hs:(eachR j3m (jdl r5).2).2.2=true) :
 WC (FW F) 17 [.s (.lst (l.map jni))] h (fun v h'=>∃ d,jg1 true h' d v=some qku):=by
 have fu:=f.up
 refine jax (fu.x _ rfl _ _) ((congrFun fu.t _).trans qqe) rfl ?_
 unfold qak
 have hpos:=ok.pos
 obtain⟨hA,eA,okA,nA,xA,gA⟩:=jd4 ok [.int .i64 0,.int .i64 0,.nilSlice,.nilSlice,.int .i64 0,.int .i64 0,.nilSlice] 55
 have ll:jsg (.s (.lst (l.map jni)))=some (vi l.length):=by
  show some (vi ((jcl (l.map jni):Nat):Int))=_
  rw[jbf,f1a]
 have c1:(20000<(l.length:Int))=False:=eq_false (by omega)
 simp(disch:=first|omega|rfl) only[go_sem,eA,ll,c1]
 unfold j3r
 simp(disch:=first|omega|rfl) only[go_sem]
 refine WC.imp (qkt fu okA (by omega)) ?_
 rintro _ hB ⟨x,rfl,okB,nB,gB,lx,hx⟩
 obtain⟨hC,eC,okC,nC,xC,gC⟩:=jd4 okB [x,.bool false] 90
 obtain⟨hD,eD,okD,nD,xD,gD⟩:=jb5 okC [.nilPtr] [.ptr hB.next 0] 87
 obtain⟨hE,eE,okE,nE,xE,gE⟩:=jd4 okD [.int .i64 0,.int .i64 0,.nilSlice,.nilSlice,.int .i64 0,.int .i64 0,.nilSlice] 55
 have xCE:=(gE _ (by omega)).trans ((gD _ (by omega)).trans xC)
 have xDE:=(gE _ (by omega)).trans xD
 have zE:hE.get h.next=some (.arr [.int .i64 0,.int .i64 0,.nilSlice,.nilSlice,.int .i64 0,.int .i64 0,.nilSlice] 55):=by rw[gE _ (by omega),gD _ (by omega),gC _ (by omega),gB _ (by omega)];exact xA
 obtain⟨bb,hbb1,kE⟩:∃ bb,bb<hB.next/\RdS hE hB.next bb (l,false):=by
  rcases hx with rfl | ⟨bb,mc,ex,cells,ty,rfl,i1,i2,i3,i4,i5⟩
  .exact ⟨h.next,by omega,okE,⟨x,xCE,lx,.inl rfl⟩,by omega,by omega,by omega,by omega⟩
  .exact ⟨bb,by omega,okE,⟨_,xCE,lx,.inr ⟨0,mc,ex,cells,ty,rfl,i1,by rw[gE _ (by omega),gD _ (by omega),gC _ (by omega)];exact i4,fun i n hi=>⟨by rw[f0x];exact i5 i n hi,hb n (f0c hi)⟩⟩⟩,by omega,by omega,by omega,by omega⟩
 simp(disch:=first|omega|rfl) only[go_sem,eC,eD,eE]
 have d0:DcS hB.next bb hD.next hC.next h.next hE [.int .i64 0,.int .i64 0,.nilSlice,.nilSlice,.int .i64 0,.int .i64 0,.nilSlice] (l,false):=⟨kE,by rw[←nC] at *;exact xDE,xE,zE,⟨by omega,by omega,by omega,by omega,by omega,by omega,by omega⟩⟩
 rw[jag]
 unfold j3q j3p
 have c7:=d0.c7
 simp(disch:=first|omega|rfl) only[go_sem,c7]
 refine WC.imp (jd2 fu d0.rd) ?_
 rintro _ h1 ⟨rfl,k1,m1⟩
 rw[e1] at k1 ⊢
 have d1:=d0.sm k1 m1
 obtain⟨h2,p2,d2⟩:=d1.put [si v1,.int .i64 0,.nilSlice,.nilSlice,.int .i64 0,.int .i64 0,.nilSlice]
 have ok1:=d1.rd.ok
 have ok2:=d2.rd.ok
 have x1:=d1.c6
 simp(disch:=first|omega|rfl) only[go_sem,jad,x1,p2]
 rw[jag]
 have c72:=d2.c7
 simp(disch:=first|omega|rfl) only[go_sem,c72]
 refine WC.imp (jd2 fu d2.rd) ?_
 rintro _ h3 ⟨rfl,k3,m3⟩
 rw[e2] at k3 ⊢
 have d3:=d2.sm k3 m3
 obtain⟨h4,p4,d4⟩:=d3.put [si v1,si v2,.nilSlice,.nilSlice,.int .i64 0,.int .i64 0,.nilSlice]
 have ok3:=d3.rd.ok
 have ok4:=d4.rd.ok
 have x3:=d3.c6
 simp(disch:=first|omega|rfl) only[go_sem,jad,x3,p4]
 rw[jag]
 have c74:=d4.c7
 simp(disch:=first|omega|rfl) only[go_sem,f0r,c74]
 refine WC.imp (qal fu d4.rd) ?_
 rintro _ h5 ⟨rfl,k5,m5⟩
 rw[e3] at k5 ⊢
 have d5:=d4.sm k5 m5
 obtain⟨h6,p6,d6⟩:=d5.put [si v1,si v2,.nilSlice,.nilSlice,si v3,.int .i64 0,.nilSlice]
 have ok5:=d5.rd.ok
 have ok6:=d6.rd.ok
 have x5:=d5.c6
 have c76:=d6.c7
 simp(disch:=first|omega|rfl) only[go_sem,x5,p6,c76]
 refine WC.imp (qal fu d6.rd) ?_
 rintro _ h7 ⟨rfl,k7,m7⟩
 rw[e4] at k7 ⊢
 have d7:=d6.sm k7 m7
 obtain⟨h8,p8,d8⟩:=d7.put [si v1,si v2,.nilSlice,.nilSlice,si v3,si v4,.nilSlice]
 have ok7:=d7.rd.ok
 have ok8:=d8.rd.ok
 have x7:=d7.c6
 have c78:=d8.c7
 simp(disch:=first|omega|rfl) only[go_sem,x7,p8,c78]
 refine WC.imp (qdv fu d8.rd (by rw[e5])) ?_
 rintro _ h9 ⟨k9,m9⟩
 rw[e5] at k9
 have d9:=d8.sm k9 m9
 have ok9:=d9.rd.ok
 have c79:=d9.c7
 simp(disch:=first|omega|rfl) only[go_sem,c79]
 refine WC.imp (j07 f d9.rd) ?_
 rintro _ hG ⟨vs,ns,rfl,sG,hns,kG,mG⟩
 have dG:=d9.sm kG mG
 have okG:=dG.rd.ok
 have xG:=dG.c6
 obtain⟨hH,pH,dH⟩:=dG.put [si v1,si v2,vs,.nilSlice,si v3,si v4,.nilSlice]
 have okH:=dH.rd.ok
 have c7H:=dH.c7
 have qne:=dH.ne
 have n9:=d9.ne
 have sH:Sl hH 3 1 false EI vs (jdl r5).1 ns:=sG.keep (fun n hn=>by rw[←pH,jaj okG (by omega),if_neg (by have:=hns n hn;omega)])
 have nGH:hH.next=hG.next:=by rw[←pH,Hp.next_put]
 have i0:DeS hD.next hB.next bb hD.next hC.next (si v1,si v2,si v3,si v4,.nilSlice) hH (jdl r5).1 [] (jdl r5).2:=⟨dH.rd,c7H,⟨vs,_,ns,[],dH.c6,sH,.nil,by simpa using qur sG,fun n hn=>by have:=hns n (by simpa using hn);omega⟩,⟨by omega,by omega,by omega,by omega,by omega,by omega,by omega,by omega⟩⟩
 simp(disch:=first|omega|rfl) only[go_sem,xG,pH,c7H]
 refine WC.imp (jvz fu (P:=j3m) (I:=fun l' r h'=>DeS hD.next hB.next bb hD.next hC.next (si v1,si v2,si v3,si v4,.nilSlice) h' (jdl r5).1 l' r/\(∀ n,n<hD.next->n≠hB.next->h'.get n=hH.get n)/\hH.next<=h'.next) (fun l' r h' i=>i.1.rd) (fun l' r h' hl i _=>?_) (fun l' r r' h' h2 i k' m=>⟨i.1.sm k' m,fun n hn hne=>(m.keep n (by have:=i.2.2;omega) (by simpa using hne)).trans (i.2.1 n hn hne),by have:=m.nx;have:=i.2.2;omega⟩) ⟨i0,fun n hn _=>rfl,f0e _⟩) ?_
 .exact WC.imp (qkr f hl i.1) (fun v h2 hh=>⟨hh.1,fun n hn hne=>(hh.2.1 n hn hne).trans (i.2.1 n hn hne),by have:=i.2.2;have:=hh.2.2;omega⟩)
 rintro _ hI ⟨iI,loI,nI⟩
 have okI:=iI.rd.ok
 have c7I:=iI.c7
 obtain⟨z,z1,z2,z3⟩:=iI.rd.ex
 rw[hs] at z1
 have zI:hI.get h.next=some (.arr [.int .i64 0,.int .i64 0,.nilSlice,.nilSlice,.int .i64 0,.int .i64 0,.nilSlice] 55):=(loI h.next (by omega) (by omega)).trans dH.c0
 obtain⟨hJ,eJ,okJ,nJ,xJ,gJ⟩:=j5p okI (b:=h.next) hpos (some (.arr [.int .i64 0,.int .i64 0,.nilSlice,.nilSlice,.int .i64 0,.int .i64 0,.nilSlice] 55))
 simp(disch:=first|omega|rfl) only[go_sem,c7I,z1,zI,eJ,xJ]
 exact⟨3,rfl⟩
end Go.Proofs.Ytkeenpohacdanaa.Ev
