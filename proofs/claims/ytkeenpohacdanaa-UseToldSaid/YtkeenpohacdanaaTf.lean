/- One instruction more, laid into an own copy ahead of another one. Conditions: the types' numbers of this program. -/
import Derived.Test.YtkeenpohacdanaaOx
import Derived.Test.YtkeenpohacdanaaTc
namespace Go.Proofs.Ytkeenpohacdanaa.Ev
noncomputable section
open Go Go.RowKit Go.Proofs.Ytkeenpohacdanaa.Ms
set_option linter.all false
set_option maxRecDepth 100000
set_option maxHeartbeats 2000000
def qpr (size:Nat) (x y:Option AV):Option AV:=ob x (fun v=>jcq v
 (ob (some 0) (fun hi'=>ob (ob y (fun x=>jj7 x (fun _ n=>Int.casesOn (motive:=fun _=>Option Nat) n (fun m=>some m) (fun _=>none)))) (fun lo'=>oif (Nat.beq (Nat.add hi' lo') 0) (some (AV.s .nilSlice)) none)))
 (fun b off len mc ex sz=>ob (some len) (fun hi'=>ob (ob y (fun x=>jj7 x (fun _ n=>Int.casesOn (motive:=fun _=>Option Nat) n (fun m=>some m) (fun _=>none)))) (fun lo' =>
  oif (Nat.ble hi' mc) (oif (Nat.ble lo' hi') (oif (Nat.beq sz size) (some (AV.s (.slice b (Nat.add off (Nat.mul lo' size)) (Nat.sub hi' lo') (Nat.sub mc lo') ex sz))) none) none) none)))
 (fun rows=>ob (some (jdj rows)) (fun hi'=>ob (ob y (fun x=>jj7 x (fun _ n=>Int.casesOn (motive:=fun _=>Option Nat) n (fun m=>some m) (fun _=>none)))) (fun lo' =>
  oif (Nat.ble hi' (jdj rows)) (oif (Nat.ble lo' hi') (oif (jyk size rows) (ob (jb2 (Nat.sub hi' lo') (jb9 lo' rows)) (fun r=>some (AV.s (.lst r)))) none) none) none)))
 (ob (some 0) (fun hi'=>ob (ob y (fun x=>jj7 x (fun _ n=>Int.casesOn (motive:=fun _=>Option Nat) n (fun m=>some m) (fun _=>none)))) (fun lo'=>oif (Nat.beq (Nat.add hi' lo') 0) (some (AV.s .emp)) none))))
theorem jwc {st fr:List AV} {size:Nat} {x y:Od}:pop st fr (.slice size x (some y) none)=qpr size (ev st fr x) (ev st fr y):=rfl
theorem qig {size b off n k:Nat} {ex:Bool} (hk:k<=n):qpr size (some (AV.s (.slice b off n n ex size))) (some (vi (k:Int)))=some (AV.s (.slice b (off+k*size) (n - k) (n - k) ex size)):=by
 show oif (Nat.ble n n) (oif (Nat.ble k n) (oif (Nat.beq size size) (some (AV.s (SV.slice b (Nat.add off (Nat.mul k size)) (Nat.sub n k) (Nat.sub n k) ex size))) none) none) none=_
 rw[show Nat.ble n n=true from f2t (f0e _),show Nat.ble k n=true from f2t hk,f1z]
 rfl
section
variable {h:Hp} {a b:SV} {f:Fc} {na nb:List Nat}
theorem OF.insI (o:OF h (.agg [a,b]) f na nb) (ok:Ok h) {k i:Nat} {B:Ms.Blk} {X:Ms.Ins} (hk:f.blocks[k]?=some B) (hX:B.instrs[i]?=some X) (hl:B.instrs.length<=1000) {row:List SV} {y:Ms.Ins} {ms:List Nat} (hr:row.length=3) (hy:OX h row y ms) (hm:ms.Nodup) {N:Nat} (hN:∀ n∈na++nb,n<N) (hNn:N<=h.next) (hf:∀ n∈ms,N<=n/\n<h.next) :
 ∃ bb bi xs hM hR hS cells cells' L nb',jwg 3 (.s b) (vi (k:Int))=some (.s (.ptr bb (k*3)))/\rdB (h.get bb) (k*3+1) 1=some [.slice bi 0 B.instrs.length B.instrs.length false 3] /\
  jin h 44 3 56 (.s .nilSlice) (.s (.slice bi 0 i B.instrs.length false 3))=some (.s xs,hM)/\Ok hM/\h.next<=hM.next/\(∀ n,n<h.next->hM.get n=h.get n) /\
  (xs=.nilSlice∨∃ n,xs=.slice h.next 0 n n false 3/\h.next<hM.next/\(hM.get h.next).isSome=true) /\
  jin (hM.push (.arr row 44)) 44 3 56 (.s xs) (.s (.slice hM.next 0 1 1 true 3))=some (.s (.slice (hM.next+1) 0 (i+1) (i+1) false 3),hR)/\Ok hR/\hR.next=hM.next+2/\(∀ n,n<h.next->hR.get n=h.get n)/\(hR.get (hM.next+1)).isSome=true /\
  jin hR 44 3 56 (.s (.slice (hM.next+1) 0 (i+1) (i+1) false 3)) (.s (.slice bi (0+i*3) (B.instrs.length - i) (B.instrs.length - i) false 3))=some (.s (.slice (hM.next+2) 0 L L false 3),hS)/\Ok hS/\hS.next=hM.next+3/\(∀ n,n<h.next->hS.get n=h.get n) /\
  h.get bb=some (.arr cells 36)/\jbm (k*3+1) [.slice (hM.next+2) 0 L L false 3] cells=some cells'/\bb∈nb/\bi∈nb /\
  OF (hS.put bb (some (.arr cells' 36))) (.agg [a,b]) ⟨f.values,f.blocks.set k { B with instrs:=B.instrs.take i++y::B.instrs.drop i }⟩ na nb':=by
 obtain⟨bb,p,ii,e,np,ni,ne,ex,M1,M2,cells,e1,e2,e3,h1,h2,h3,rfl,up⟩:=o.at hk
 have lt:=o.lt
 have nd:=o.nd
 have hbb:=lt bb (by simp)
 have hiL:i<B.instrs.length:=(f05.1 hX).1
 rcases h2 with⟨h2,_⟩ | ⟨hne,bi,rows,nss,rfl,hg,hR0,rfl⟩
 .rw [h2] at hiL;simp at hiL
 obtain⟨A,rX,C,R,T,mX,P1,P2,rfl,eI,hA,hRl,rfl,hrX,hEX,hRA,hRC⟩:=hR0.at hX
 have eT:B.instrs.take i=R:=by rw[eI,←hRl,List.take_left]
 have eD:B.instrs.drop i=X::T:=by rw[eI,←hRl,List.drop_left]
 have hbi:=lt bi (by simp)
 have hlA:=hRA.len
 have hRD:Rows 3 (OX h) (rX::C) (X::T) (mX++P2):=.cons hrX hEX hRC
 have hlD:=hRD.len
 have elen:B.instrs.length=i+(T.length+1):=by rw[eI,f0z,hRl];rfl
 have hAf:A.flatten.length=i*3:=by rw[hlA.2,hRl]
 have r1:rdB (h.get bi) 0 (i*3)=some A.flatten:=by
  rw[hg,jdo,jbq,f3e]
  refine(jax _).2 ⟨?_,?_⟩
  .rw [f1j,f0z,hAf];omega
  .rw [f1j,←hAf,List.take_left]
 have r2:rdB (h.get bi) (0+i*3) ((B.instrs.length - i)*3)=some (rX::C).flatten:=by
  rw[hg,jdo,jbq,f0w,f1j,←hAf,List.drop_left]
  refine(jax _).2 ⟨?_,?_⟩
  .rw [hlD.2,elen];simp
  .rw [List.take_of_length_le];rw[hlD.2,elen];simp
 have st1:∃ xs hM ns1,jin h 44 3 56 (.s .nilSlice) (.s (.slice bi 0 i B.instrs.length false 3))=some (.s xs,hM)/\Ok hM/\h.next<=hM.next/\(∀ n,n<h.next->hM.get n=h.get n)/\(xs=.nilSlice∨∃ n,xs=.slice h.next 0 n n false 3/\h.next<hM.next/\(hM.get h.next).isSome=true)/\Sl hM 44 3 false (OX h) xs R ns1/\ns1.tail=P1/\(∀ n∈ns1,n∈P1∨(n=h.next/\n<hM.next))/\(∀ c,ns1.head?=some c->h.next<=c):=by
  cases hRA with
  | nil =>
   refine⟨.nilSlice,h,[],?_,ok,f0e _,fun _ _=>rfl,.inl rfl,.inl ⟨rfl,rfl,rfl⟩,rfl,by simp,by simp⟩
   have hi0:i=0:=by simpa using hA.symm
   subst hi0
   rw[jd0,r1]
   rfl
  | @cons row0 a0 ms0 rows0 l0 nss0 q1 q2 q3 =>
   have q:Rows 3 (OX h) (row0::rows0) (a0::l0) (ms0++nss0):=.cons q1 q2 q3
   obtain⟨hM,eM,okM,nM,kM,sM⟩:=(Sl.nil (h:=h) (ty:=44) (sz:=3) (ex:=false) (E:=OX h)).app (bytes:=56) (b':=bi) (o':=0) (mc':=B.instrs.length) (ex':=false) ok (by simp) (by rw[hRl];exact r1) q (by simp) (by rw[hRl];simp;omega) (by rw[hRl];simp;omega)
   rw[hRl] at eM
   have hgM:hM.get h.next=some (.arr (row0::rows0).flatten 44):=by
    rw[jd0,r1] at eM
    obtain⟨i',rfl⟩:∃ i',i=i'+1:=⟨i - 1,by simp at hA;omega⟩
    have e9:jh1 56 (i'+1) (nw h (row0::rows0).flatten 44 (fun k h=>Ev.ok (.s (.slice k 0 (i'+1) (i'+1) false 3)) h))=some (AV.s (.slice h.next 0 ([].length+(i'+1)) ([].length+(i'+1)) false 3),hM):=eM
    rw[jhn (by omega) (by omega),jr2 ok] at e9
    have e10:h.push (.arr (row0::rows0).flatten 44)=hM:=(Prod.mk.inj (Option.some.inj e9)).2
    rw[←e10,ja0 ok,if_pos rfl]
   refine⟨_,hM,h.next::(ms0++nss0),eM,okM,by omega,fun n hn=>kM n (by omega) (by simp),.inr ⟨_,rfl,by omega,by rw[hgM];rfl⟩,?_,rfl,fun n hn=>?_,fun c hc=>?_⟩
   .have:=sM (E':=OX h) (fun _ _ _ _ e=>e)
    rw[hRl] at this
    exact this
   .rcases f0g.1 hn with rfl | hn
    .exact .inr ⟨rfl,by omega⟩
    .exact .inl (by simpa using hn)
   .cases hc;exact f0e _
 obtain⟨xs,hM,ns1,eM,okM,nM,kM,cM,sM,tM,mM,dM⟩:=st1
 have hP1:∀ n∈P1,1<=n/\n<h.next:=fun n hn=>lt n (by simp[hn])
 have hpos:=ok.pos
 have lt1:∀ n∈ns1,1<=n/\n<hM.next:=fun n hn=>by
  rcases mM n hn with h4 | ⟨rfl,h4⟩
  .have:=hP1 n h4;omega
  .omega
 obtain⟨hQ,eQ,okQ,nQ,xQ,gQ⟩:=jed okM row 44
 have sQ:=sM.keep (h':=hQ) (fun n hn=>gQ n (by have:=lt1 n hn;omega))
 have rQ:rdB (hQ.get hM.next) 0 ([y].length*3)=some [row].flatten:=by
  rw[xQ,jdo]
  refine(jax _).2 ⟨?_,?_⟩
  .show [y].length*3<=row.length
   simp[hr]
  .show [row].flatten=row.take ([y].length*3)
   simp[←hr]
 obtain⟨hR,eR,okR,nR,kR,sR⟩:=sQ.app (bytes:=56) (b':=hM.next) (o':=0) (mc':=1) (ex':=true) (rows':=[row]) (l':=[y]) (ms:=ms) okQ (fun n hn=>by have:=lt1 n hn;omega) rQ (by simpa using Rows.cons hr hy .nil) (by simp) (by rw[hRl];simp;omega) (by rw[hRl];simp;omega)
 have sR':=sR (E':=OX h) (fun _ _ _ _ e=>e)
 rw[hRl,nQ] at eR sR'
 have kR':∀ n,n<h.next->hR.get n=h.get n:=fun n hn=>by
  rw[kR n (by omega) (fun c hc=>by have:=dM c hc;omega),gQ n (by omega),kM n hn]
 rw[tM] at sR'
 have gR:(hR.get (hM.next+1)).isSome=true:=by
  rcases sR' with⟨h4,_⟩ | ⟨_,c,rs,nss,e4,h5,_,_⟩
  .simp at h4
  .rw [(SV.slice.inj e4).1,h5];rfl
 have hms:∀ n∈ms,1<=n/\n<h.next:=fun n hn=>by have:=hf n hn;have:=hN bb (by simp);omega
 have r3:rdB (hR.get bi) (0+i*3) ((X::T).length*3)=some (rX::C).flatten:=by
  rw[kR' bi hbi.2]
  have e5:B.instrs.length - i=(X::T).length:=by rw[elen];simp
  rw[←e5];exact r2
 obtain⟨hS,eS,okS,nS,kS,sS⟩:=sR'.app (bytes:=56) (b':=bi) (o':=0+i*3) (mc':=B.instrs.length - i) (ex':=false) (rows':=rX::C) (l':=X::T) (ms:=mX++P2) okR (fun n hn=>by
  rcases f0g.1 hn with rfl | hn
  .omega
  .rcases f0d.1 hn with h4 | h4
   .have:=hP1 n h4;omega
   .have:=hms n h4;omega) r3 hRD (by simp) (by simp[hRl];omega) (by simp[hRl];omega)
 have eLn:(R++[y]).length=i+1:=by simp[hRl]
 have eDn:(X::T).length=B.instrs.length - i:=by rw[elen];simp
 have ltS:∀ n∈P1++ms++(mX++P2),n<h.next:=fun n hn=>by
  rcases f0d.1 hn with h4 | h4
  .rcases f0d.1 h4 with h4 | h4
   .exact (hP1 n h4).2
   .exact (hms n h4).2
  .exact (lt n (by rcases f0d.1 h4 with h4 | h4<;>simp[h4])).2
 rw[eLn,eDn,nR,nQ] at eS
 have kS':∀ n,n<h.next->hS.get n=h.get n:=fun n hn=>by
  rw[kS n (by omega) (fun c hc=>by cases hc;omega),kR' n hn]
 obtain⟨cells',e5,fin⟩:=up (j:=1) (v:=.slice (hM.next+1+1) 0 (i+1+(B.instrs.length - i)) (i+1+(B.instrs.length - i)) false 3) (by omega)
 obtain⟨hZ,eZ,okZ,nZ,xZ,gZ⟩:=qiq okS (b:=bb) hbb.1 (some (.arr cells' 36))
 have kZ:∀ n,n<h.next->n≠bb->hZ.get n=h.get n:=fun n h4 h5=>(gZ n h5).trans (kS' n h4)
 have nd2:=f0j.1 nd
 have nd3:=f0s.1 nd2.2.1
 have nd4:=f0j.1 nd3.2
 have nd5:=f0j.1 nd4.2.1
 have nd6:=f0j.1 nd5.1
 have nd7:=f0j.1 nd6.2.1
 have nd8:=f0s.1 nd7.1
 have bne:∀ {n},n∈M1++((np++((bi::(P1++(mX++P2)))++ne))++M2)->n≠bb:=fun hn e=>nd3.1 (e▸hn)
 have ana:∀ n∈na,n≠bb:=fun n hn e=>nd2.2.2 n hn bb (by simp) e
 refine⟨bb,bi,xs,hM,hR,hS,cells,cells',_,bb::(M1++((np++(((hM.next+2)::(P1++ms++(mX++P2)))++ne))++M2)),e1,qb2 e3 rfl rfl,eM,okM,nM,kM,cM,by rw[eQ];exact eR,okR,by omega,kR',gR,eS,okS,by omega,kS',e2,e5,by simp,by simp,?_⟩
 rw[eZ]
 have neS:∀ n∈P1++ms++(mX++P2),n≠bb:=fun n hn=>by
  rcases f0d.1 hn with h4 | h4
  .rcases f0d.1 h4 with h4 | h4
   .exact bne (by simp[h4])
   .intro e;subst e;have:=hf _ h4;have:=hN n (by simp);omega
  .exact bne (by rcases f0d.1 h4 with h4 | h4<;>simp[h4])
 have sS':=sS (E':=OX hZ) (fun row a m hmm e'=>e'.keep (fun n hn=>by
  have h6:n∈P1++ms++(mX++P2):=by
   rcases hmm n hn with h4 | h4
   .exact f04 _ h4
   .exact f0u _ h4
  exact kZ n (ltS n h6) (neS n h6)))
 rw[eLn,eDn,nR,nQ] at sS'
 have low:∀ n,n∈M1++((np++((bi::(P1++(mX++P2)))++ne))++M2)->hZ.get n=h.get n:=fun n hn=>kZ n (lt n (f0u _ (f0y _ hn))).2 (bne hn)
 refine fin (N:=N) (B':={ B with instrs:=B.instrs.take i++y::B.instrs.drop i }) (ms':=np++(((hM.next+2)::(P1++ms++(mX++P2)))++ne)) hN xZ ⟨p,_,e,np,_,ne,ex,rfl,h1.keep (fun n hn=>low n (by simp[hn])),?_,h3.imp (fun n hn=>low n (by simp[hn])) (fun row a m hm' e'=>e'.keep (fun n hn=>low n (by simp[hm' n hn]))),rfl⟩ ?_ (by omega) ?_ ?_
 .have e6:B.instrs.take i++y::B.instrs.drop i=R++[y]++(X::T):=by rw[eT,eD];simp
  show Sl hZ 44 3 false (OX hZ) _ (B.instrs.take i++y::B.instrs.drop i) _
  rw[e6]
  refine sS'.imp (fun n hn=>gZ n (fun e=>?_)) (fun _ _ _ _ e=>e)
  subst e
  rcases f0g.1 hn with h4 | h4
  .omega
  .exact neS n h4 rfl
 .intro n hn
  exact kZ n (lt n (by
   rcases f0d.1 hn with h4 | h4
   .simp [h4]
   .rcases f0d.1 h4 with h4 | h4<;>simp[h4])).2 (by
   rcases f0d.1 hn with h4 | h4
   .exact ana n h4
   .exact bne (by rcases f0d.1 h4 with h4 | h4<;>simp[h4]))
 .refine jdf (N:=N) nd5.1 (fun n hn=>hN n ?_) (f0s.2 ⟨fun hc=>by have:=ltS _ hc;omega,?_⟩) (fun n hn=>?_)
  .simp only[f0d,f0g] at hn ⊢
   exact .inr (.inr (.inr (.inl hn)))
  .have:=jdf (N:=N) (A:=P1) (ns:=[]) (B:=mX++P2) (ns':=ms) (by simpa using nd8.2) (fun n hn=>hN n (by
    rcases f0d.1 hn with h4 | h4
    .simp [h4]
    .rcases f0d.1 h4 with h4 | h4
     .simp at h4
     .rcases f0d.1 h4 with h4 | h4<;>simp[h4])) hm (fun n hn=>.inr (hf n hn).1)
   simpa[f0r] using this
  .rcases f0g.1 hn with h4 | h4
   .exact .inr (by omega)
   .rcases f0d.1 h4 with h4 | h4
    .rcases f0d.1 h4 with h4 | h4
     .exact .inl (by simp[h4])
     .exact .inr (hf n h4).1
    .exact .inl (by rcases f0d.1 h4 with h4 | h4<;>simp[h4])
 .intro n hn
  rcases f0d.1 hn with h4 | h4
  .have:=lt n (by simp[h4]);exact⟨.inl (by simp[h4]),by omega⟩
  .rcases f0d.1 h4 with h4 | h4
   .rcases f0g.1 h4 with h4 | h4
    .exact ⟨.inr (by omega),by omega⟩
    .rcases f0d.1 h4 with h4 | h4
     .rcases f0d.1 h4 with h4 | h4
      .have:=hP1 n h4;exact⟨.inl (by simp[h4]),by omega⟩
      .have:=hf n h4;exact⟨.inr this.1,by omega⟩
     .have:=lt n (by rcases f0d.1 h4 with h4 | h4<;>simp[h4])
      exact⟨.inl (by rcases f0d.1 h4 with h4 | h4<;>simp[h4]),by omega⟩
   .have:=lt n (by simp[h4]);exact⟨.inl (by simp[h4]),by omega⟩
end
open Go Go.RowKit
variable {a:Int} {vs:List AV} {xl:SV}
def j7n:IC:=.seq (.block 1 (qr [qP (.ixs 5 (.g 10) (.g 13)),qK 5,qB 9 (.new 46 [.int .i64 0,.int .i64 0,.bool false,.int .i64 0,.int .i64 0]),qA (.store 5 qa qb)] (qr [qF 0 9,qL,qQ 8 (.bin .eq qa (qC 2))] (.cond (.g 8) (.region [qF 1 9,qL,qT 7]) .skip)))) (.region [qI 13,qT 13])
def jt0:IC:=qr [qQ 11 (.bin .lt (.g 13) (.g 12))] (.seq (qX 11 0) j7n)
def j7o:IC:=.draw [(qF 1 17,.none),(qL,.some []),(qM 16,.none),(qM 6,.none),(qA (.load 3 true (.g 5)),.some [2]),(qA (.bslice 44 3 [.int .i64 0,.nilSlice,.nilSlice] 1 [(0,(3,qa))]),.some [3]),(qA (.app 44 3 56 qc qa),.some [4]),(qF 1 17,.none),(qL,.some [1,2,3,6]),(qM 16,.none),(qP (.ixs 3 qb qa),.none),(qG 1,.none),(qL,.some [5,6,7,10]),(qM 15,.none),(qP (.slice 3 qb (.some qa) .none),.none),(qA (.app 44 3 56 (.l 8) qa),.some [13]),(qP (.ixs 3 (.l 14) (.l 13)),.none),(qG 1,.none),(qA (.store 1 qa qc),.none)]
def qb5:IC:=qr [qQ 4 (.mv (.c (.s (.bool false))))] (qr [qM 0,qM 1,qA (.call 9 [qb,qa]),qB 18 (.new 30 [.int .i64 0,.int .i64 0]),qA (.store 2 qa qb)] (qr [qA (.load 2 true (.g 18)),qM 2,qA (.call 8 [qb,qa]),qA (.call 11 [qa]),qB 17 (.new 26 [.nilSlice,.nilSlice]),qA (.store 2 qa qb)] (qr [qA (.load 2 true (.g 17)),qM 3,qA (.call 12 [qb,qa]),qP (.mv qa),qP (.ext 0 qa),qP (.ext 1 qb),qQ 16 (.mv qb),qQ 15 (.mv qb)] (qr [qF 1 17,qL,qM 16,qP (.ixs 3 qb qa),qG 1,qL,qM 15,qP (.ixs 3 qb qa),qK 3,qB 14 (.new 44 [.int .i64 0,.nilSlice,.nilSlice]),qA (.store 3 qa qb)] (qr [qQ 7 (.mv (qC 0))] (.seq (qr [qF 1 14,qB 10 (.load 1 false qa),qQ 12 (.len qa),qQ 13 (.mv (qC 0))] (.block 0 (.loop jt0))) (qr [qM 7,qP (.build [.int .i64 0,.int .i64 0,.bool false,.int .i64 0,.int .i64 0] [(0,(1,qC 1)),(1,(1,qa)),(3,(1,qC 1))]),qA (.bslice 46 5 [.int .i64 0,.int .i64 0,.bool false,.int .i64 0,.int .i64 0] 1 [(0,(5,qa))]),qP (.build [.int .i64 0,.nilSlice,.nilSlice] [(1,(1,qa))]),qB 5 (.new 44 [.int .i64 0,.nilSlice,.nilSlice]),qA (.store 3 qa qb)] (qr [qF 1 17,qL,qM 16,qP (.ixs 3 qb qa),qG 1,qL,qM 15,qP (.slice 3 qb .none (.some qa)),qA (.app 44 3 56 (.c (.s .nilSlice)) qa),qT 6] (.seq j7o (qr [qA (.load 2 true (.g 17)),qA (.load 2 true (.g 18)),qA (.call 13 [qb,qa]),qP (.bin .eq qa (qC 10)),qT 4] .ret))))))))))
theorem qo8:T 4=some (.mk qb5 4 15 [(.tmp 4)]):=by kernel_rfl
attribute [local go_sem] Int.reduceToNat reduceCtorEq Nat.reduceAdd Nat.reduceMul Nat.reduceEqDiff Int.reduceEq Int.reduceLT Int.reduceLE Int.reduceNeg Int.reduceAdd Int.reduceSub Int.reduceMul Int.reduceNe
attribute [local go_sem ↓] reduceIte
theorem j2b {X:Ms.Ins} (hl:LD X):jpl X.ops∈jb3 X:=by
 obtain⟨r,o,e,ho⟩:=hl
 rw[e,jlk,if_pos ho]
 unfold jb3
 rw[e]
 simp[ho]
theorem j9z {m:Nat×Nat} (m1:2<=m.1/\m.1<=10) (m2:2<=m.2/\m.2<=10) (l:List Pc):∃ s,FlOk m (jcs m l) s/\(jb4 (jcs m l).blocks).Perm (List.range (jcs m l).values.length) /\
 (∀ (k i:Nat) (b:Blk) (x:Ms.Ins) (o:Ms.Opd),(jcs m l).blocks[k]?=some b->b.instrs[i]?=some x->o∈x.ops->o.kind=1->jhs (jd5 s) (jcs m l).blocks o.value k i) /\
 (∀ (k:Nat) (b:Blk) (e:Ms.Edg) (v:Nat),(jcs m l).blocks[k]?=some b->e∈b.edges->v∈e.args->jhs (jd5 s) (jcs m l).blocks v k b.instrs.length):=by
 obtain⟨s0,o,kp,_⟩:=qh9 m1 m2 l
 obtain⟨s,h1,h2,h3,h4⟩:=jqv m1 m2 l
 have k:=o.k
 refine⟨s,⟨⟨k,o.on,h1,h2,o.hv⟩,⟨by have:=k.nb;omega,fun b hb=>by have:=k.blk b hb;omega,fun a i b x hb hx=>⟨(k.ins b (f0b hb) x (f0b hx)).nops,fun o ho hk=>jhs.kt kp (h3 a i b x o hb hx ho hk)⟩,fun a b e hb he=>⟨?_,fun v hv=>jhs.kt kp (h4 a b e v hb he hv)⟩⟩⟩,kp,h3,h4⟩
 obtain⟨_,_,t,h5,h6,_⟩:=k.edg b (f0b hb) e he
 have h7:=(k.blk t (f0b h5)).1
 have:=congrArg List.length h6
 simp only[f1a] at this
 omega
def SPu (f:FuncId):Bool:=Nat.beq f 12
def FTu:Fns:=PX SPu F11
theorem qo9 {A:Nat->Int}:Env Try.prog A tys FTu:=jg1 qo7
theorem qps {f:FuncId} (h0:SPu f=false) (h1:S1 f=false) (h2:Nat.beq f jfk.f=false) (h3:S3 f=false) (h4:S4 f=false) (h5:S5 f=false) (h6:S6 f=false) (h7:S7 f=false) (h8:S8 f=false) (h9:S9 f=false) (h10:S10 f=false) (h11:S11 f=false) {h:Hp}:jdg FTu f vs h=none:=(jbg h0).trans (qpq h1 h2 h3 h4 h5 h6 h7 h8 h9 h10 h11)
section
variable {F:Fns} {h:Hp} {m:Nat×Nat} {f:Fc} {s:List Bool} {x:AV} {na nb:List Nat} {Q:AV->Hp->Prop}
theorem qih {g:FuncId} (h4:S4 g=false) (h5:S5 g=false) (h6:S6 g=false) (h7:S7 g=false) (h8:S8 g=false) (h9:S9 g=false) (h10:S10 g=false) (h11:S11 g=false):jdg F11 g vs h=jdg F3 g vs h :=
 (jbg h11).trans ((ql5 h9 h10).trans ((jbg h8).trans (qqs h4 h5 h6 h7)))
theorem qmc:jdg F11 19 vs h=jdg F1 19 vs h:=(qih rfl rfl rfl rfl rfl rfl rfl rfl).trans ((jbg rfl).trans (jg6.pk vs h))
theorem j90 (z:Szs f) (hne:f.blocks≠[]) (o:OF h x f na nb) {n:Int} (hn1:-9223372036854775808<=n) (hn2:n<=9223372036854775807):WC FTu 12 [x,vi n] h Q=Q (.tup [(false,[si (jpj f n).1]),(false,[si (jpj f n).2])]) h :=
 jap (j3y rfl (o.nogrd hne _) ⟨_,4,o.frz1,j9w jec z hn1 hn2 (qpq rfl rfl rfl rfl rfl rfl rfl rfl rfl rfl rfl) rfl (fun m h h1 h2=>qmc.trans (ju2 hn1 hn2 h1 h2))⟩)
theorem jyj {b:Int} (ha:In6 a) (hb:In6 b):WC FTu 9 [vi a,vi b] h Q=Q (.agg (qj7 (jta a b))) h:=jap ((jbg rfl).trans ((qih rfl rfl rfl rfl rfl rfl rfl rfl).trans (j11 ha hb)))
theorem j91 {l:List Pc} (m1:2<=m.1/\m.1<=10) (m2:2<=m.2/\m.2<=10) (pin:∀ q∈l,Pin q) (lx:LstE jb1 7 xl l):WC FTu 8 [.agg [si m.1,si m.2],.s xl] h Q=Q (.agg (jt6 (jcs m l))) h:=jap ((jbg rfl).trans ((qih rfl rfl rfl rfl rfl rfl rfl rfl).trans (qec m1 m2 pin lx)))
theorem qii (g:FlG m f s) (m1:2<=m.1/\m.1<=10) (m2:2<=m.2/\m.2<=10) (u:UbOk (jd5 s) f) {k0 i0:Nat} {b0:Blk} {y0:Ms.Ins} {o0:Ms.Opd} (hb0:f.blocks[k0]?=some b0) (hy0:b0.instrs[i0]?=some y0) (ho0:o0∈y0.ops) (hk0:o0.kind=1) (hbk:BK (jb5 f) o0.value k0 i0) (o:OF h x f na nb) :
 WC FTu 13 [x,.agg [si m.1,si m.2]] h Q=Q (vi 10) h :=
 jap ((jbg rfl).trans (o.call2 g.hne rfl (qif jec g m1 m2 u hb0 hy0 ho0 hk0 hbk)))
end
theorem qij {l:List Ms.Opd} (hl:l.length<=10000) {oo:SV} {ex:Bool} {lo:Nat} {ns:List Nat} (hns:∀ n∈ns,n<lo) {x0 x1 x2 x3 x4 x5 x6 x14 x15 x16 x17 x18:AV} {Q:Ex->St->Prop} :
 ∀ (d i:Nat) (_:i+d=l.length) {hi:Hp} (_:Ok hi) (_:lo<=hi.next) (_:Sl hi 46 5 ex EO oo l ns) {x8 x9 x11:AV}
  (hQ:∀ hj x8 x9 x11,Ok hj->hi.next<=hj.next->(∀ n,n<lo->hj.get n=hi.get n)->Q (.exit 0) (.mk [x0,x1,x2,x3,x4,x5,x6,vi (jpl l),x8,x9,.s oo,x11,vi l.length,vi l.length,x14,x15,x16,x17,x18] hj)),
  W FTu jt0.loop (.mk [x0,x1,x2,x3,x4,x5,x6,vi (jpl (l.take i)),x8,x9,.s oo,x11,vi l.length,vi i,x14,x15,x16,x17,x18] hi) Q
 | 0,i,hd,hi,ok,hn,s,x8,x9,x11,hQ=>by
  obtain rfl:i=l.length:=by omega
  rw[jak]
  unfold jt0
  simp(disch:=first|omega|rfl) only[go_sem,f0v,f2k]
  exact hQ hi _ _ _ ok (f0e _) (fun _ _=>rfl)
 | d+1,i,hd,hi,ok,hn,s,x8,x9,x11,hQ=>by
  have hil:i<l.length:=by omega
  have hlt:(i:Int)<(l.length:Int):=by omega
  have hss:(i:Int)+1=((i+1:Nat):Int):=by omega
  obtain⟨o,ho⟩:∃ o,l[i]?=some o:=⟨_,f0c hil⟩
  obtain⟨b,row,ms,e1,e2,e3,⟨rfl,rfl⟩,_,e6⟩:=s.at ho
  have ht:l.take (i+1)=l.take i++[o]:=by rw[List.take_add_one,ho];rfl
  obtain⟨hA,eA,okA,nA,xA,gA⟩:=jcm ok [.int .i64 0,.int .i64 0,.bool false,.int .i64 0,.int .i64 0] (jbb o) 46
  have sA:=s.keep (fun n hm=>gA n (by have:=hns n hm;omega))
  have hQ':∀ hj x8 x9 x11,Ok hj->hA.next<=hj.next->(∀ n,n<lo->hj.get n=hA.get n)->Q (.exit 0) (.mk [x0,x1,x2,x3,x4,x5,x6,vi (jpl l),x8,x9,.s oo,x11,vi l.length,vi l.length,x14,x15,x16,x17,x18] hj) :=
   fun hj x8 x9 x11 k n g=>hQ hj x8 x9 x11 k (by omega) (fun n hm=>(g n hm).trans (gA n (by omega)))
  unfold jbb at xA eA e2
  rw[jak]
  unfold jt0 j7n
  by_cases e:o.kind=2
  .have c1:((o.kind:Int)=2)=True:=eq_true (by omega)
   have hv:jpl (l.take (i+1))=o.value:=by rw[ht,jlk,if_pos e]
   simp(disch:=first|omega|rfl) only[go_sem,jad,eq_true hlt,e1,e2,eA,xA,c1,hss]
   rw[←hv]
   exact qij hl hns d (i+1) (by omega) okA (by omega) sA hQ'
  .have c1:((o.kind:Int)=2)=False:=eq_false (by omega)
   have hv:jpl (l.take (i+1))=jpl (l.take i):=by rw[ht,jlk,if_neg e]
   simp(disch:=first|omega|rfl) only[go_sem,jad,eq_true hlt,e1,e2,eA,xA,c1,hss]
   rw[←hv]
   exact qij hl hns d (i+1) (by omega) okA (by omega) sA hQ'
set_option maxHeartbeats 8000000
section
variable {F:Fns} {st fr:List AV} {es:List Ent} {h h2:Hp} {dst:Option Nat} {l:List (IOper×Option (List Nat))} {Q:Ex->St->Prop}
def rsA (x:SV) (h h2:Hp):List (Nat×Nat) :=
 match x with
 | .slice c _ _ _ _ _=>[(c,Nat.succ c),(h.next,h2.next)]
 | _=>[(h.next,Nat.succ h.next)]
theorem jwd {e:TypeId} {size bytes:Nat} {ox oy:Od} {js:List Nat} {b:Nat} {row:List SV} {x:SV} {v:AV} (k:Ok h) (k2:Ok h2) (hx:ev st fr ox=some (.s x)) (hw:ev st fr oy=some (.s (.slice b 0 1 1 true size))) (hs:sel es js []=some []) (hb:rdB (h.get b) 0 (1*size)=some row) (hsm:1*bytes<=1000000000)
 (hi:x=.nilSlice∨∃ c n,x=.slice c 0 n n false size/\jfa es js c=true/\(h.get c).isSome=true) (ha:jin h e size bytes (.s x) (.s (.slice b 0 1 1 true size))=some (v,h2)) :
 WD F ((.mk dst (.a (.app e size bytes ox oy)) none,some js)::l) st es fr h Q=WD F l (v::st) (.mk (rsA x h h2) none::es) (jcn fr dst v) h2 Q:=by
 rcases hi with rfl | ⟨c,n,rfl,h3,h4⟩
 .have e1:jin h e size bytes (.s .nilSlice) (.s (.slice b 0 1 1 true size))=some (.s (.slice h.next 0 1 1 false size),h.push (.arr row e)):=by
   rw[jd0,hb]
   show jh1 bytes 1 (nw h row e _)=_
   rw[jhn hsm (by omega),jr2 k]
   rfl
  rw[e1] at ha
  cases ha
  exact jwb (n:=0) k hx hw hs hb hsm
 .obtain ⟨c',h4⟩:=f2y.1 h4
  exact jpk k k2 hx hw hs h3 h4 ha
end
theorem qmd {h:Hp} (ok:Ok h) {b n:Int} {l:List Pc} (ha:In6 a) (hb:In6 b) (hn:In6 n) (pin:∀ q∈l,Pin q) (lx:LstE jb1 7 xl l):WC FTu 4 [vi a,vi b,.s xl,vi n] h (fun v _=>v=.s (.bool true)):=by
 refine ja9 (qps rfl rfl rfl rfl rfl rfl rfl rfl rfl rfl rfl rfl) qo8 rfl ?_
 unfold qb5
 obtain⟨hn1,hn2⟩:=hn
 obtain⟨m1,m2⟩:=qeb a b
 obtain⟨m,em⟩:∃ m,jta a b=m:=⟨_,rfl⟩
 rw[em] at m1 m2
 obtain⟨s,o,kp,hu,he⟩:=j9z m1 m2 l
 obtain⟨zi,z1,z2⟩:=j7k m1 m2 l
 have hld:=j7j m l
 obtain⟨f,ef⟩:∃ f,jcs m l=f:=⟨_,rfl⟩
 rw[ef] at o kp hu he zi z1 z2 hld
 have k:=o.k
 have hpos:=ok.pos
 have knb:=k.nb
 have hne:f.blocks≠[]:=fun e=>by rw[e] at knb;simp at knb
 obtain⟨hA,eA,okA,nA,xA,gA⟩:=jcm ok [.int .i64 0,.int .i64 0] [si m.1,si m.2] 30
 simp(disch:=first|omega|rfl) only[go_sem,jyj ha hb,em,qj7,eA,xA,j91 m1 m2 pin lx,ef]
 refine WC.imp (qib okA (qb3 k) (qps rfl rfl rfl rfl rfl rfl rfl rfl rfl rfl rfl rfl) rfl) ?_
 rintro v hC ⟨na,nb,oC,okC,nC,gC,lC⟩
 obtain⟨ga,gb,rfl⟩:∃ ga gb,v=AV.agg [ga,gb]:=by obtain⟨⟨a,b,e,_⟩,_⟩:=oC;exact⟨a,b,e⟩
 obtain⟨hD,eD,okD,nD,xD,gD⟩:=jcm okC [.nilSlice,.nilSlice] [ga,gb] 26
 have oD:=oC.keep (h':=hD) (fun n hn=>gD n (oC.lt n hn).2) (by omega)
 have hsp:∃ kk ii B X,(jpj f n).1=kk/\(jpj f n).2=ii/\f.blocks[kk]?=some B/\B.instrs[ii]?=some X:=by
  have hm:1<=jmt f.blocks:=z1
  have hp:=je0 (n:=n) (m:=max (jmt f.blocks) 1) (by omega)
  obtain⟨d,h1,x,h2,h3⟩:=j0y f.blocks 0 (pk n (max (jmt f.blocks) 1)) (by omega)
  rw[f0w] at h1
  exact⟨_,_,x,_,rfl,rfl,by unfold jpj;rw[h1];exact h2,by unfold jpj;exact f0c h3⟩
 obtain⟨kk,ii,B,X,ek,ei,hB',hX⟩:=hsp
 have memB:=f0b hB'
 have memX:=f0b hX
 have hBl:=zi B memB
 have hiL:ii<B.instrs.length:=(f05.1 hX).1
 obtain⟨bb,p,si',e,np,ni,ne,ex,M1,M2,cells,r1,r2,r3,r4,r5,r6,enb,_⟩:=oD.at hB'
 have r7:=qb2 (j:=1) r3 rfl rfl
 obtain⟨bi,rowX,msX,r8,r9,r10,⟨oo,ss,n1,n2,ex2,rfl,r11,r12,rfl⟩,r13,r14⟩:=r5.at hX
 obtain⟨hI,eI,okI,nI,xI,gI⟩:=jcm okD [.int .i64 0,.nilSlice,.nilSlice] [si X.op,oo,ss] 44
 have ltn1:∀ n∈n1,n<hD.next:=fun n hn=>(oD.lt n (by have:=r13 n (by simp[hn]);rw[enb];simp[this])).2
 have r11':=r11.keep (h':=hI) (fun n hn=>gI n (ltn1 n hn))
 have lo1:=r11'.len
 simp(disch:=first|omega|rfl) only[go_sem,eD,xD,j90 (qb3 k) hne oD hn1 hn2,ek,ei,r1,r7,r8,r9,eI,xI,lo1]
 have hX6:=(k.ins B memB X memX).nops
 refine qij (l:=X.ops) (by omega) (lo:=hI.next) (fun n hn=>by have:=ltn1 n hn;omega) X.ops.length 0 (by omega) okI (f0e _) r11' (fun hJ x8 x9 x11 okJ nJ gJ=>?_)
 obtain⟨v,ev⟩:∃ v,jpl X.ops=v:=⟨_,rfl⟩
 have vd:v∈jb3 X:=ev▸j2b (hld B memB X memX)
 obtain⟨oG,uG,gB,gy,bk⟩:=qmb o m1 m2 kp hu he zi z2 hB' hX vd
 have xJ:=(gJ hC.next (by omega)).trans ((gI hC.next (by omega)).trans xD)
 have oJ:=oD.keep (h':=hJ) (fun n hn=>by have:=(oD.lt n hn).2;rw[gJ n (by omega),gI n this]) (by omega)
 obtain⟨hK,eK,okK,nK,xK,gK⟩:=jed okJ (jbb ⟨1,v,false,1,0⟩) 46
 obtain⟨hL,eL,okL,nL,xL,gL⟩:=jcm okK [.int .i64 0,.nilSlice,.nilSlice] [si 0,.slice hJ.next 0 1 1 true 5,.nilSlice] 44
 have xKL:=(gL _ (by omega)).trans xK
 have xHL:=(gL _ (by omega)).trans ((gK _ (by omega)).trans xJ)
 have oL:=oJ.keep (h':=hL) (fun n hn=>by have:=(oJ.lt n hn).2;rw[gL n (by omega),gK n this]) (by omega)
 have hOX:OX hL [si 0,.slice hJ.next 0 1 1 true 5,.nilSlice] (jqx 1 v) [hJ.next]:=⟨_,_,[hJ.next],[],true,rfl,.inr ⟨by simp[jqx],hJ.next,[jbb ⟨1,v,false,1,0⟩],[],rfl,by rw[xKL];simp;rfl,.cons (ns:=[]) rfl ⟨rfl,rfl⟩ .nil,rfl⟩,.nil,rfl⟩
 obtain⟨bc,bj,xs,hM,hR,hS,cs1,cs2,L,nb',t1,t2,t3,okM,nM,kM,cM,t4,okR,nR,kR,gR,t5,okS,nS,kS,t6,t7,t8,t8',t9⟩:=oL.insI okL hB' hX (by omega) rfl hOX (by simp) (N:=hJ.next) (fun n hn=>by have:=(oD.lt n hn).2;omega) (by omega) (fun n hn=>by rw[f0i.1 hn];omega)
 have lbc:=(oD.lt bc (f0u _ t8)).2
 have lbc1:=(oD.lt bc (f0u _ t8)).1
 obtain⟨hP,eP,okP,nP,xP,gP⟩:=qiq okS (b:=bc) lbc1 (some (.arr cs2 36))
 rw[eP] at t9
 have lbC:=(oC.lt bc (f0u _ t8)).2
 have eK':hJ.push (AB.arr [.int .i64 1,si v,.bool false,.int .i64 1,.int .i64 0] 46)=hK:=eK
 have eL':(hK.push (AB.arr [.int .i64 0,.nilSlice,.nilSlice] 44)).put hK.next (some (.arr [.int .i64 0,.slice hJ.next 0 1 1 true 5,.nilSlice] 44))=hL:=eL
 have xL':hM.get hK.next=some (.arr [.int .i64 0,.slice hJ.next 0 1 1 true 5,.nilSlice] 44):=(kM _ (by omega)).trans xL
 have xHM:=(kM _ (by omega)).trans xHL
 have xHR:=(kR _ (by omega)).trans xHL
 have t2M:rdB (hM.get bc) (kk*3+1) 1=some [.slice bj 0 B.instrs.length B.instrs.length false 3]:=by rw[kM bc (by omega)];exact t2
 have t2R:rdB (hR.get bc) (kk*3+1) 1=some [.slice bj 0 B.instrs.length B.instrs.length false 3]:=by rw[kR bc (by omega)];exact t2
 have t6S:hS.get bc=some (.arr cs1 36):=(kS bc (by omega)).trans t6
 have pA:hP.get h.next=some (.arr [si m.1,si m.2] 30):=by
  rw[gP _ (fun e=>by have:=lC bc (f0u _ t8);omega),kS _ (by omega),gL _ (by omega),gK _ (by omega),gJ _ (by omega),gI _ (by omega),gD _ (by omega),gC _ (by omega)];exact xA
 have pG:hP.get hC.next=some (.arr [ga,gb] 26):=by
  rw[gP _ (by omega),kS _ (by omega)];exact xHL
 have etw:(⟨f.values,f.blocks.set kk { B with instrs:=B.instrs.take ii++jqx 1 v::B.instrs.drop ii }⟩:Fc)=j2e f kk ii v:=by
  unfold j2e
  rw[jcx hB']
  rfl
 rw[etw] at t9
 rw[nK] at eL' xL'
 simp(disch:=first|omega|rfl) only[go_sem,jad,ev,xHL,t1,t2,jfl,j46 (Nat.le_of_lt hiL),t3,eK',nK,eL']
 unfold j7o
 obtain⟨hQ,eQ,okQ,nQ,xQ,gQ⟩:=jed okM [.int .i64 0,.slice hJ.next 0 1 1 true 5,.nilSlice] 44
 rw[eQ] at t4
 simp(disch:=first|omega|rfl) only[go_sem,xHM,xL',eQ]
 have hrq:rdB (hQ.get hM.next) 0 (1*3)=some [.int .i64 0,.slice hJ.next 0 1 1 true 5,.nilSlice]:=by rw[xQ];rfl
 refine Eq.mpr (jwd (row:=[.int .i64 0,.slice hJ.next 0 1 1 true 5,.nilSlice]) (x:=xs) okQ okR rfl rfl rfl hrq (by omega) ?_ t4) ?_
 .rcases cM with h1 | ⟨n',h1,h3,h2⟩
  .exact .inl h1
  .refine .inr ⟨_,n',h1,?_,?_⟩
   .show oif (oif (Nat.beq hC.next hL.next) false true) true false=true
    have hb:Nat.beq hC.next hL.next=false:=by
     cases e:Nat.beq hC.next hL.next with
     | false=>rfl
     | true=>have:=f0t e;omega
    rw[hb];rfl
   .rw [gQ _ h3]
    exact h2
 have bM:bc<hM.next:=by omega
 rw[f0w] at t5
 have f1:∀ c,c<hL.next->(hQ.next<=c/\c<Nat.succ hQ.next)=False:=fun c hc=>eq_false (by omega)
 have f2:∀ c,c<hL.next->(hM.next<=c/\c<hM.next+1)=False:=fun c hc=>eq_false (by omega)
 have f3:∀ c,c<hL.next->(hQ.next<=c/\c<hR.next)=False:=fun c hc=>eq_false (by omega)
 have f4:∀ c,c<hL.next->(hL.next<=c/\c<Nat.succ hL.next)=False:=fun c hc=>eq_false (by omega)
 have q1:hC.next<hL.next:=by omega
 have q2:bc<hL.next:=by omega
 have f5:∀ c d,c<hL.next->hL.next<=d->(d<=c)=False:=fun c d hc hd=>eq_false (by omega)
 have q3:hL.next<=hQ.next:=by omega
 obtain⟨cR,gR'⟩:=f2y.1 gR
 rcases cM with rfl | ⟨n',rfl,h3,_⟩
 all_goals
  simp(disch:=first|omega|rfl) only[go_sem,rsA,f1 _ q1,f2 _ q1,f3 _ q1,f4 _ q1,f1 _ q2,f2 _ q2,f3 _ q2,f4 _ q2,f5 _ _ q1 q3,f5 _ _ q1 nM,f5 _ _ q1 (f0e _),f5 _ _ q2 q3,f5 _ _ q2 nM,f5 _ _ q2 (f0e _),false_and,xHR,t1,t2R,jwc,qig (Nat.le_of_lt hiL)]
  refine Eq.mpr (jpk okR okS rfl rfl rfl ?_ gR' t5) ?_
  .show oif (oif (Nat.beq hC.next (hM.next+1)) false true) true false=true
   have hb:Nat.beq hC.next (hM.next+1)=false:=by
    cases e:Nat.beq hC.next (hM.next+1) with
    | false=>rfl
    | true=>have:=f0t e;omega
   rw[hb];rfl
  simp(disch:=first|omega|rfl) only[go_sem,t1,t6S,t7,eP,pA,pG,qii oG m1 m2 uG gB gy (f0i.2 rfl) rfl bk t9]
  done
end
end Go.Proofs.Ytkeenpohacdanaa.Ev
