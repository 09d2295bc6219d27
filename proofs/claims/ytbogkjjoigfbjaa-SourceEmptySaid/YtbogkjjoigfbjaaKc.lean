/- Code of functions as the interpreter has it prepared, cut at loops. -/
import Derived.Test.YtbogkjjoigfbjaaMc4
import Derived.Test.YtbogkjjoigfbjaaRa
import Derived.Test.YtbogkjjoigfbjaaOr
import Derived.Test.YtbogkjjoigfbjaaK1
import Derived.Test.YtbogkjjoigfbjaaGb
import Derived.Test.YtbogkjjoigfbjaaSf
namespace Go.Proofs.Ytbogkjjoigfbjaa.Ev
open Go Go.RowKit
set_option linter.all false
set_option maxRecDepth 100000
def j0v:IC:=.seq (.block 1 (qr [qP (.ixs 1 (.g 4) (.g 7)),qL,qT 2] (.region [qM 3,qP (.bin .mul qa (qC 31)),qM 2,qP (.bin .rem qa (qC 1000003)),qP (.bin .add qc qa),qP (.bin .add qa (qC 1000003)),qP (.bin .rem qa (qC 1000003)),qT 3]))) (.region [qI 7,qT 7])
def jqf:IC:=qr [qQ 5 (.bin .lt (.g 7) (.g 6))] (.seq (qX 5 0) j0v)
def j3x:IC:=qr [qQ 1 (.mv (qC 0))] (qr [qQ 3 (.mv (qC 7))] (.seq (qr [qQ 4 (.mv (.g 0)),qQ 6 (.len qa),qQ 7 (.mv (qC 0))] (.block 0 (.loop jqf))) (qr [qM 3,qT 1] .ret)))
theorem qal:T 67=some (.mk j3x 1 7 [(.tmp 1)]):=by kernel_rfl
def jvj:IC:=qr [qB 5 (.box 78 (.g 1)),qQ 4 (.mv (qC 0))] (qr [qM 0,qF 0 5,qL,qM 2,qA (.bslice 3 1 [.int .i64 0,.int .i64 0,.int .i64 0] 3 [(0,(1,qd)),(1,(1,qb)),(2,(1,qa))]),qM 3,qA (.app 3 1 8 qb qa),qA (.call 67 [qa]),qT 4] .ret)
theorem j6a:T 51=some (.mk jvj 4 2 [(.tmp 4)]):=by kernel_rfl
def jvk:IC:=.draw [(qM 0,.none),(qF 1 7,.none),(qL,.some []),(qM 2,.none),(qP (.ixs 3 qb qa),.none),(qG 0,.none),(qL,.some []),(qA (.bslice 3 1 [.int .i64 0,.int .i64 0,.int .i64 0] 3 [(0,(1,.l 6)),(1,(1,qa)),(2,(1,qC (-1)))]),.some []),(qM 3,.none),(qA (.app 3 1 8 qb qa),.some []),(qA (.call 67 [qa]),.some []),(qF 2 7,.none),(qL,.some [1,2,4,5,9]),(qP (.len qa),.none),(qP (.bin .rem qd qa),.none),(qT 4,.none)]
def j0w:IC:=qr [qB 7 (.box 36 (.g 1)),qQ 4 (.mv (qC 0))] (.seq (.block 0 (qr [qM 2,qP (.bin .lt qa (qC 0)),qP (.mv qa),qR 0 false (.mv (.g 2)),qR 1 false (.fld 1 (.g 7)),qS 2 false (.load 1 false qa),qR 3 false (.len qa),qR 4 false (.bin .sub qa (qC 1)),qR 5 false (.bin .ne (.l 4) qa),qP (.pick (.l 6) (.c (.s (.bool true))) qa),qP (.mv qa),qR 0 false (.fld 2 (.g 7)),qS 1 false (.load 1 false qa),qR 2 false (.len qa),qR 3 false (.bin .eq qa (qC 0)),qP (.pick (.l 4) (.c (.s (.bool true))) qa),qT 6] (.cond (.g 6) (qr [qQ 4 (.mv (qC (-1)))] .ret) (qr [qF 2 7,qL,qP (.len qa),qP (.bin .eq qa (qC 1)),qT 5] (.cond (.g 5) (qr [qQ 4 (.mv (qC 0))] .ret) .skip))))) (.seq jvk .ret))
theorem j8d:T 52=some (.mk j0w 4 4 [(.tmp 4)]):=by kernel_rfl
def jvl:IC:=qr [qQ 1 (.mv (.c (.s (.bool false))))] (qr [qM 0,qN,qG 3,qL,qP (.bin .sub qa (qC 1)),qP (.nchk (.l 4)),qG 3,qA (.store 1 qa qc)] (qr [qM 0,qN,qG 3,qL,qP (.bin .ge qa (qC 0)),qT 1] .ret))
theorem j6b:T 27=some (.mk jvl 1 1 [(.tmp 1)]):=by kernel_rfl
def jvm:IC:=.seq (.block 1 (qr [qP (.ixs 5 (.g 15) (.g 18)),qK 5,qB 14 (.new 81 [.int .i64 0,.int .i64 0,.bool false,.int .i64 0,.int .i64 0]),qA (.store 5 qa qb)] (qr [qF 0 14,qL,qQ 13 (.bin .eq qa (qC 1))] (.cond (.g 13) (.draw [(qM 12,.none),(qM 0,.none),(qN,.none),(qG 4,.none),(qL,.some []),(qF 1 14,.none),(qL,.some [1]),(qP (.ixs 1 qc qa),.none),(qL,.none),(qA (.bslice 3 1 [.int .i64 0] 1 [(0,(1,qa))]),.none),(qA (.app 3 1 8 (.l 9) qa),.none),(qT 12,.none)]) .skip)))) (.region [qI 18,qT 18])
def jj5:IC:=qr [qQ 16 (.bin .lt (.g 18) (.g 17))] (.seq (qX 16 0) jvm)
def jvn:IC:=.seq (.block 3 (qr [qM 11,qP (.ixs 5 (.g 8) (.g 11)),qK 5,qB 7 (.new 81 [.int .i64 0,.int .i64 0,.bool false,.int .i64 0,.int .i64 0]),qQ 5 (.mv qd),qA (.store 5 qb qc)] (qr [qF 0 7,qL,qQ 6 (.bin .eq qa (qC 2))] (.cond (.g 6) (.draw [(qM 0,.none),(qN,.none),(qG 4,.none),(qL,.some []),(qF 1 7,.none),(qL,.some [1]),(qM 0,.none),(qN,.none),(qG 2,.none),(qL,.some [3,5]),(qA (.load 3 true (.g 19)),.some [0,4,6]),(qM 5,.none),(qM 12,.none),(qA (.call 51 [qd,qc,qb,qa]),.some [7,9]),(qP (.ixs 1 (.l 10) (.l 8)),.none),(qA (.store 1 qa qb),.none)]) .skip)))) (.region [qI 11,qT 11])
def jj6:IC:=qr [qQ 9 (.bin .lt (.g 11) (.g 10))] (.seq (qX 9 2) jvn)
def j0x:IC:=qr [qQ 3 (.mv (qC 0))] (qr [qM 0,qN,qG 0,qG 1,qL,qM 1,qP (.ixs 3 qb qa),qG 1,qL,qM 2,qP (.ixs 3 qb qa),qK 3,qB 19 (.new 78 [.int .i64 0,.nilSlice,.nilSlice]),qA (.store 3 qa qb)] (qr [qQ 12 (.mv (.c (.s .nilSlice)))] (.seq (qr [qF 1 19,qB 15 (.load 1 false qa),qQ 17 (.len qa),qQ 18 (.mv (qC 0))] (.block 0 (.loop jj5))) (.seq (qr [qF 1 19,qB 8 (.load 1 false qa),qQ 10 (.len qa),qQ 11 (.mv (qC 0))] (.block 2 (.loop jj6))) (.seq (.draw [(qM 0,.none),(qN,.none),(qG 2,.none),(qL,.some []),(qM 0,.none),(qN,.none),(qG 0,.none),(qG 1,.none),(qL,.some [4]),(qM 1,.none),(qP (.ixs 3 qb qa),.none),(qK 3,.some [7]),(qM 2,.none),(qM 12,.none),(qA (.call 52 [.l 10,qc,qb,qa]),.none),(qT 4,.none)]) (qr [qM 0,qM 0,qN,qG 5,qL,qM 1,qM 2,qM 12,qM 4,qP (.build [.int .i64 0,.int .i64 0,.nilSlice,.int .i64 0] [(0,(1,qd)),(1,(1,qc)),(2,(1,qb)),(3,(1,qa))]),qA (.bslice 73 4 [.int .i64 0,.int .i64 0,.nilSlice,.int .i64 0] 1 [(0,(4,qa))]),qA (.app 73 4 48 (.l 6) qa),qP (.nchk (.l 11)),qG 5,qA (.store 1 qa qc)] (qr [qM 4,qT 3] .ret)))))))
theorem j8e:T 28=some (.mk j0x 3 17 [(.tmp 3)]):=by kernel_rfl
def jvo:IC:=.seq (.block 1 (qr [qP (.ixs 1 (.g 10) (.g 13)),qL,qT 8] (.region [qM 9,qM 0,qN,qG 4,qL,qM 8,qP (.ixs 1 qb qa),qL,qA (.bslice 3 1 [.int .i64 0] 1 [(0,(1,qa))]),qA (.app 3 1 8 (.l 8) qa),qT 9]))) (.region [qI 13,qT 13])
def jj7:IC:=qr [qQ 11 (.bin .lt (.g 13) (.g 12))] (.seq (qX 11 0) jvo)
def jvp:IC:=.seq (.block 3 (qr [qM 7,qP (.ixs 1 (.g 4) (.g 7)),qL,qQ 2 (.mv qc),qQ 3 (.mv qb)] (.draw [(qM 0,.none),(qN,.none),(qG 4,.none),(qL,.some []),(qM 3,.none),(qM 9,.none),(qM 2,.none),(qP (.ixs 1 qb qa),.none),(qL,.some [4]),(qP (.ixs 1 (.l 5) (.l 4)),.none),(qA (.store 1 qa qb),.none)]))) (.region [qI 7,qT 7])
def jj8:IC:=qr [qQ 5 (.bin .lt (.g 7) (.g 6))] (.seq (qX 5 2) jvp)
def j0y:IC:=qr [qB 14 (.box 52 (.g 1))] (qr [qQ 9 (.mv (.c (.s .nilSlice)))] (.seq (qr [qF 1 14,qB 10 (.load 1 false qa),qQ 12 (.len qa),qQ 13 (.mv (qC 0))] (.block 0 (.loop jj7))) (.seq (.draw [(qM 0,.none),(qN,.none),(qG 0,.none),(qG 1,.none),(qL,.some []),(qF 0 14,.none),(qL,.some [1]),(qP (.ixs 3 qc qa),.none),(qG 0,.none),(qB 4 (.load 1 false qa),.none),(qQ 6 (.len qa),.none),(qQ 7 (.mv (qC 0)),.none)]) (.block 2 (.loop jj8)))))
theorem j8f:T 29=some (.mk j0y 2 13 []):=by kernel_rfl
def jvq:IC:=.draw [(qA (.load 2 true (.g 21)),.some []),(qM 2,.none),(qM 3,.none),(qF 0 21,.none),(qL,.some [3]),(qP (.len qa),.none),(qA (.mkslice 3 1 8 [.int .i64 0] qa qa),.some [5]),(qP (.build [.nilSlice,.nilSlice,.int .i64 0,.int .i64 0,.nilSlice,.nilSlice] [(0,(2,.l 6)),(2,(1,.l 5)),(3,(1,.l 4)),(4,(1,qa))]),.none),(qA (.box 69 qa),.none),(qT 16,.none)]
def jvr:IC:=.region [qM 16,qM 14,qM 9,qA (.call 28 [qc,qb,qa]),qT 7]
def jvs:IC:=.seq (.block 3 (qr [qM 13,qT 9] (.seq (qr [qM 16,qA (.call 27 [qa]),qQ 10 (.not qa)] (.cond (.g 10) (qr [qM 16,qN,qG 5,qL,qT 5,qQ 4 (.mv (qC 0))] .ret) .skip)) jvr))) (.region [qI 13,qT 13])
def jj9:IC:=qr [qQ 11 (.bin .lt (.g 13) (.g 12))] (.seq (qX 11 2) jvs)
def jvt:IC:=qr [qF 1 21,qL,qM 14,qP (.ixs 3 qb qa),qG 2,qL,qM 7,qP (.ixs 2 qb qa),qK 2,qB 6 (.new 52 [.int .i64 0,.nilSlice]),qA (.store 2 qa qb)] (qr [qM 16,qA (.load 2 true (.g 6)),qA (.call 29 [qb,qa])] (.region [qF 0 6,qL,qT 14]))
def jvu:IC:=.block 1 (qr [qQ 7 (.mv (qC 0))] (.seq (qr [qF 1 21,qL,qM 14,qP (.ixs 3 qb qa),qG 1,qL,qQ 12 (.len qa),qQ 13 (.mv (qC 0))] (.block 2 (.loop jj9))) (.seq (qr [qF 1 21,qL,qM 14,qP (.ixs 3 qb qa),qG 2,qL,qP (.len qa),qQ 8 (.bin .eq qa (qC 0))] (.cond (.g 8) (.exit 0) .skip)) jvt)))
def jka:IC:=.seq (qr [qM 16,qB 15 (.call 27 [qa])] (qX 15 0)) jvu
def jvv:IC:=.seq jvq (.seq (qr [qQ 14 (.mv (qC 0))] (.block 0 (.loop jka))) (qr [qM 16,qN,qG 5,qL,qT 5,qQ 4 (.mv (qC 0))] .ret))
def jqg:IC:=.seq (qr [qM 3,qP (.bin .lt qa (qC 0)),qP (.mv qa),qR 0 false (.mv (.g 3)),qR 1 false (.bin .gt qa (qC 5000)),qQ 17 (.pick qc (.c (.s (.bool true))) qa)] (.cond (.g 17) (qr [qQ 5 (.mv (.c (.s .nilSlice))),qQ 4 (.mv (qC 2))] .ret) .skip)) jvv
def jub:IC:=qr [qB 21 (.box 26 (.g 0)),qB 20 (.box 30 (.g 1)),qQ 5 (.mv (.c (.s .nilSlice))),qQ 4 (.mv (qC 0))] (.seq (qr [qA (.load 2 true (.g 21)),qA (.load 2 true (.g 20)),qA (.call 11 [qb,qa]),qT 19] (qr [qM 19,qQ 18 (.bin .ne qa (qC 0))] (.cond (.g 18) (qr [qM 19,qQ 5 (.mv (.c (.s .nilSlice))),qQ 4 (.mv qb)] .ret) .skip))) jqg)
theorem j3y:T 13=some (.mk jub 4 18 [(.tmp 5),(.tmp 4)]):=by kernel_rfl
open Go Go.RowKit Go.Proofs.Ytbogkjjoigfbjaa.Ms
variable {k:Bool} {h':Hp} {i j:Nat}
attribute [local go_sem] Int.reduceToNat reduceCtorEq Nat.reduceAdd Nat.reduceMul Nat.reduceEqDiff Int.reduceEq Int.reduceLT Int.reduceLE Int.reduceNeg Int.reduceAdd Int.reduceSub Int.reduceMul Int.reduceNe
attribute [local go_sem ↓] reduceIte
set_option maxHeartbeats 2000000
def EZ (row:List SV) (a:Int) (ns:List Nat):Prop:=row=[si a]/\ns=[]
theorem j0z:∀ l:List Int,Rows 1 EZ (l.map jco) l []
 | []=>.nil
 | a::l=>.cons (ns:=[]) rfl ⟨rfl,rfl⟩ (j0z l)
theorem qam (l:List Int):jqh 1 (l.map jco)=some (l.map jco).flatten:=jrw (fun r h=>by obtain⟨a,_,rfl⟩:=List.mem_map.1 h;rfl)
theorem jrx {h:Hp} (ok:Ok h) {c:Nat} {pre l:List Int} (hp:pre≠[]) (hc:h.get c=some (.arr (pre.map jco).flatten 3)) (hs:pre.length+l.length<=100000) :
 ∃ x' h2 c' ex,jrm h 3 1 8 (.s (.slice c 0 pre.length pre.length true 1)) (.s (jbj jco l))=some (.s x',h2)/\Ok h2/\h.next<=h2.next/\(∀ n,n<h.next->h2.get n=h.get n)/\Sl h2 3 1 ex EZ x' (pre++l) [c']:=by
 cases l with
 | nil=>exact⟨_,h,c,true,jm1,ok,f0b _,fun _ _=>rfl,.inr ⟨by simp[hp],c,pre.map jco,[],by simp,hc,by simpa using j0z pre,rfl⟩⟩
 | cons a l =>
  obtain⟨hA,eA,okA,nA,xA,gA⟩:=jrv ok (((pre++(a::l)).map jco).flatten) 3
  have e1:((pre++(a::l)).map jco).flatten=(pre.map jco).flatten++((a::l).map jco).flatten:=by rw[List.map_append,f1q]
  have hfl:(pre.map jco).flatten.length=pre.length:=(j0z pre).len.2.trans (by simp)
  refine⟨.slice h.next 0 (pre++(a::l)).length (pre++(a::l)).length false 1,hA,h.next,false,?_,okA,by omega,gA,.inr ⟨by simp,h.next,_,[],rfl,xA,j0z _,rfl⟩⟩
  show ob (jqh 1 ((a::l).map jco)) (fun new=>oif (Nat.beq 1 1) (oif (Nat.ble (Nat.add pre.length (jbu ((a::l).map jco))) pre.length) _ (jg3 8 (Nat.add pre.length (jbu ((a::l).map jco))) (jew h 3 1 c 0 pre.length (jbu ((a::l).map jco)) true new))) none)=_
  rw[qam,jao,f1t]
  have hb:Nat.ble (Nat.add pre.length (a::l).length) pre.length=false:=by
   cases e:Nat.ble (Nat.add pre.length (a::l).length) pre.length with
   | false=>rfl
   | true =>
    have h1:=f0d e
    have h2:Nat.add pre.length (a::l).length=pre.length+(l.length+1):=rfl
    omega
  show oif (Nat.ble (Nat.add pre.length (a::l).length) pre.length) _ (jg3 8 (Nat.add pre.length (a::l).length) (jew h 3 1 c 0 pre.length (a::l).length true ((a::l).map jco).flatten))=_
  rw[hb]
  show jg3 8 (pre.length+(a::l).length) (jew h 3 1 c 0 pre.length (a::l).length true ((a::l).map jco).flatten)=_
  rw[jjw (by omega) (by omega)]
  show ob (h.get c) (fun x=>_)=_
  rw[hc]
  show ob (ja4 (pre.length*1) (pre.map jco).flatten) (fun old=>nw h (jeo old ((a::l).map jco).flatten) 3 (fun k h=>Ev.ok (.s (.slice k 0 (pre.length+(a::l).length) (pre.length+(a::l).length) false 1)) h))=_
  rw[(jaj _).2 ⟨by rw[hfl];omega,by rw[List.take_of_length_le (by rw[hfl];omega)]⟩]
  show nw h (jeo (pre.map jco).flatten ((a::l).map jco).flatten) 3 (fun k h=>Ev.ok (.s (.slice k 0 (pre.length+(a::l).length) (pre.length+(a::l).length) false 1)) h)=_
  rw[jcb,←e1,jrl ok,eA,f0s]
  rfl
section
variable {F:Fns}
theorem qan (n:Int):-1000003<n.tmod 1000003/\n.tmod 1000003<1000003:=⟨Int.lt_tmod_of_pos n (by omega),Int.tmod_lt_of_pos n (by omega)⟩
theorem j3z {l:List Int} (hl:l.length<=1000000) (hin:∀ n∈l,In6 n) {r:Int} {x0 x1:AV} {Q:Ex->St->Prop} {h:Hp} (hQ:∀ x2 x5,Q (.exit 0) (.mk [x0,x1,x2,vi r,.s (jbj jco l),x5,vi l.length,vi l.length] h)) :
 ∀ (d i:Nat) (_:i+d=l.length) (acc:Int) (_:0<=acc/\acc<1000003) (_:(l.drop i).foldl j3v acc=r) {x2 x5:AV},
  W F jqf.loop (.mk [x0,x1,x2,vi acc,.s (jbj jco l),x5,vi l.length,vi i] h) Q
 | 0,i,hd,acc,ha,hr,x2,x5=>by
  obtain rfl:i=l.length:=by omega
  rw[List.drop_length] at hr
  subst hr
  rw[jdk]
  unfold jqf
  simp(disch:=first|omega|rfl) only[go_sem,f2u]
  exact hQ _ _
 | d+1,i,hd,acc,ha,hr,x2,x5=>by
  have hlt:(i:Int)<(l.length:Int):=by omega
  have hil:i<l.length:=by omega
  obtain⟨n,hn⟩:∃ n,l[i]?=some n:=⟨_,f0f hil⟩
  have hix:=jbe (enc:=jco) (size:=1) hn rfl
  have hs:(i:Int)+1=((i+1:Nat):Int):=by omega
  have hdr:l.drop i=n::l.drop (i+1):=by
   rw[f05 hil]
   congr 1
   exact(f0n.1 hn).2
  rw[hdr,List.foldl_cons] at hr
  obtain⟨hi1,hi2⟩:=hin n (f0h hn)
  have ht:=qan n
  have hrem:jc2 .rem (.int .i64 n) (.int .i64 1000003)=some (vi (n.tmod 1000003)):=by
   rw[jo6,if_neg (by omega),jei (by omega) (by omega)]
  have hmx:(acc*31+n.tmod 1000003+1000003) % 1000003=j3v acc n:=rfl
  have hmi:=j0r acc n
  rw[jdk]
  unfold jqf j0v
  simp(disch:=first|omega|rfl) only[go_sem,jb2,eq_true hlt,hix,jco,hrem,hs,hmx]
  exact j3z hl hin hQ d (i+1) (by omega) (j3v acc n) hmi hr
theorem j6c {h:Hp} (ok:Ok h) {l:List Int} (hl:l.length<=1000000) (hin:∀ n∈l,In6 n) (hX:jf8 F 67 [.s (jbj jco l)] h=none) (hT:j4r F 67=T 67) :
 WC F 67 [.s (jbj jco l)] h (fun v h'=>∃ d,jib k h' d v=some (vi (jw5 l))):=by
 refine jf9 hX (hT.trans qal) rfl ?_
 unfold j3x
 have ll:=jbd (enc:=jco) (l:=l)
 simp(disch:=first|omega|rfl) only[go_sem,ll]
 refine j3z hl hin (r:=jw5 l) (fun x2 x5=>?_) l.length 0 (by omega) 7 (by omega) rfl
 simp(disch:=first|omega|rfl) only[go_sem]
 exact⟨1,rfl⟩
end
def S15 (f:FuncId):Bool:=Nat.beq f 67
noncomputable def F15:Fns:=PX S15 KB
theorem qao {A:Nat->Int}:Env Try.prog A tys F15:=ju6 qak
section
variable {h:Hp} {Q:AV->Hp->Prop} {x:SV} {l:List Int} {ns:List Nat} {ex:Bool}
theorem jvw (hl:l.length<=1000000) (hin:∀ n∈l,In6 n) (hne:l≠[]) (s:Sl h 3 1 ex EZ x l ns):jf8 F15 67 [.s x] h=some (vi (jw5 l),h):=by
 refine jlk rfl ?_ ⟨[.s (jbj jco l)],2,?_,j6c jrk hl hin (kno rfl) rfl⟩
 .rcases s with⟨h1,_⟩ | ⟨_,c,rows,nss,h1,_⟩
  .exact absurd h1 hne
  .rw [h1];rfl
 .show ob (jib true h 2 (.s x)) _=_
  rw[show jib true h 2 (.s x)=some (.s (jbj jco l)) from jaa.2 ⟨_,s.frz (enc:=jco) (d:=1) (fun row a ms e=>by
   obtain⟨rfl,_⟩:=e
   rfl) (fun _=>rfl),rfl⟩]
  rfl
theorem j2s (hl:l.length<=1000000) (hin:∀ n∈l,In6 n) (hne:l≠[]) (s:Sl h 3 1 ex EZ x l ns):WC F15 67 [.s x] h Q=Q (vi (jw5 l)) h:=jb8 (jvw hl hin hne s)
theorem j00 {lo:Nat} (ok:Ok h) (hl:l.length<=1000000) (hin:∀ n∈l,In6 n) (hne:l≠[]) (s:Sl h 3 1 ex EZ x l ns):WC F15 67 [.s x] (h.hide lo []) Q=Q (vi (jw5 l)) (h.hide lo []) :=
 jb8 (jvw hl hin hne (s.keep (fun n hn=>by rw[jo7 ok,jd8];rfl)))
end
theorem j30 {n:Int} (h:0<=n/\n<1000003):In6 n:=⟨by omega,by omega⟩
theorem jvx {h:Hp} (ok:Ok h) {seed:Int} (hs:In6 seed) {x:Ms.Ins} (hx:x.op<=255) (hj:j<=1000) {rd:List Int} (hr:∀ n∈rd,0<=n/\n<1000003) (hl:rd.length<=10000) :
 WC F15 51 [vi seed,.agg (jnx x),vi j,.s (jbj jco rd)] h (fun v h'=>∃ d,jib k h' d v=some (vi (jt7 seed x j rd))):=by
 refine jf9 ((jes rfl).trans (kno rfl)) j6a rfl ?_
 unfold jvj
 have hin:∀ n∈[seed,(x.op:Int),(j:Int)]++rd,In6 n:=fun n hn=>by
  simp only[f2p,f1m,f0o] at hn
  rcases hn with rfl | rfl | rfl | hn
  .exact hs
  .exact ⟨by omega,by omega⟩
  .exact ⟨by omega,by omega⟩
  .exact j30 (hr n hn)
 obtain⟨hA,eA,okA,nA,xA,gA⟩:=jrv ok (jnx x) 78
 obtain⟨hB,eB,okB,nB,xB,gB⟩:=jrv okA [si seed,si x.op,si j] 3
 obtain⟨x',hC,c',ex,eC,okC,nC,gC,s⟩:=jrx okB (pre:=[seed,(x.op:Int),(j:Int)]) (l:=rd) (by simp) xB (by simp;omega)
 unfold jnx at eA xA
 have eC':jrm hB 3 1 8 (.s (.slice (h.next+1) 0 3 3 true 1)) (.s (jbj jco rd))=some (.s x',hC):=by rw[←nA];exact eC
 simp(disch:=first|omega|rfl) only[go_sem,jnx,eA,nA,xA,eB,eC',j2s (by simp;omega) hin (by simp) s]
 exact⟨1,rfl⟩
theorem jry {h:Hp} (ok:Ok h) {seed:Int} (hs:In6 seed) {b:Ms.Blk} {x:Ms.Ins} (hx:b.instrs[i]?=some x) (hop:x.op<=255) (hbi:b.instrs.length<=1000) (hbe:b.edges.length<=1000) {rd:List Int} (hr:∀ n∈rd,0<=n/\n<1000003) (hl:rd.length<=10000) :
 WC F15 52 [vi seed,.agg (jfp b),vi i,.s (jbj jco rd)] h (fun v h'=>∃ d,jib k h' d v=some (vi (jb9 seed b i x rd))):=by
 refine jf9 ((jes rfl).trans (kno rfl)) j8d rfl ?_
 unfold j0w
 have hpos:=ok.pos
 have hil:=(f0n.1 hx).1
 have li:=jbd (enc:=jnx) (l:=b.instrs)
 have le:=jbd (enc:=j3m) (l:=b.edges)
 obtain⟨hA,eA,okA,nA,xA,gA⟩:=jrv ok (jfp b) 36
 unfold jfp at eA xA
 have c0:((i:Int)<0)=False:=eq_false (by omega)
 by_cases h1:i+1=b.instrs.length
 .have c1:((i:Int)≠(b.instrs.length:Int) - 1)=False:=eq_false (by omega)
  by_cases h2:b.edges.length=0
  .have e:jb9 seed b i x rd=-1:=by unfold jb9;rw[if_neg (by omega),if_pos h2]
   have c2:((b.edges.length:Int)=0)=True:=eq_true (by omega)
   simp(disch:=first|omega|rfl) only[go_sem,jb2,jfp,eA,xA,li,le,c0,c1,c2]
   rw[e]
   exact⟨1,rfl⟩
  .have c2:((b.edges.length:Int)=0)=False:=eq_false (by omega)
   by_cases h3:b.edges.length=1
   .have e:jb9 seed b i x rd=0:=by unfold jb9;rw[if_neg (by omega),if_neg h2,if_pos h3]
    have c3:((b.edges.length:Int)=1)=True:=eq_true (by omega)
    simp(disch:=first|omega|rfl) only[go_sem,jb2,jfp,eA,xA,li,le,c0,c1,c2,c3]
    rw[e]
    exact⟨1,rfl⟩
   .have e:jb9 seed b i x rd=jw5 ([seed,(x.op:Int),-1]++rd) % (b.edges.length:Int):=by unfold jb9;rw[if_neg (by omega),if_neg h2,if_neg h3]
    have c3:((b.edges.length:Int)=1)=False:=eq_false (by omega)
    simp(disch:=first|omega|rfl) only[go_sem,jb2,jfp,eA,xA,li,le,c0,c1,c2,c3]
    have hin:∀ n∈[seed,(x.op:Int),-1]++rd,In6 n:=fun n hn=>by
     simp only[f2p,f1m,f0o] at hn
     rcases hn with rfl | rfl | rfl | hn
     .exact hs
     .exact ⟨by omega,by omega⟩
     .exact ⟨by omega,by omega⟩
     .exact j30 (hr n hn)
    have hix:=jbe (enc:=jnx) (size:=3) hx rfl
    obtain⟨hB,eB,okB,nB,xB,gB⟩:=jrv okA [si seed,si x.op,si (-1)] 3
    obtain⟨x',hC,c',ex,eC,okC,nC,gC,s⟩:=jrx okB (pre:=[seed,(x.op:Int),-1]) (l:=rd) (by simp) xB (by simp;omega)
    have hmi:=jt6 ([seed,(x.op:Int),-1]++rd)
    obtain⟨w,ew⟩:∃ w,jw5 ([seed,(x.op:Int),-1]++rd)=w:=⟨_,rfl⟩
    rw[ew] at e hmi
    unfold jvk
    simp(disch:=first|omega|rfl) only[go_sem,jb2,xA,hix,jnx,eB]
    rw[jua okB okC rfl rfl rfl rfl xB eC]
    have yA:=(gC h.next (by omega)).trans ((gB _ (by omega)).trans xA)
    have hh1:(hA.next<=h.next/\h.next<hA.next+1)=False:=eq_false (by omega)
    have hh2:(hC.next<=h.next/\h.next<hC.next)=False:=eq_false (by omega)
    have hh3:(hB.next<=h.next/\h.next<hC.next)=False:=eq_false (by omega)
    have hh4:(hA.next<=h.next)=False:=eq_false (by omega)
    have hh5:(hB.next<=h.next)=False:=eq_false (by omega)
    have hh6:(hC.next<=h.next)=False:=eq_false (by omega)
    have ew':jw5 (seed::(x.op:Int)::-1::rd)=w:=ew
    simp(disch:=first|omega|rfl) only[go_sem,jb2,j00 okC (by simp;omega) hin (by simp) s,ew',hh1,hh2,hh3,hh4,hh5,hh6,false_and,if_false,f0q,yA,le]
    rw[e]
    exact⟨1,rfl⟩
 .have c1:((i:Int)≠(b.instrs.length:Int) - 1)=True:=eq_true (by omega)
  have e:jb9 seed b i x rd=-1:=by unfold jb9;rw[if_pos h1]
  simp(disch:=first|omega|rfl) only[go_sem,jb2,jfp,eA,xA,li,le,c0,c1]
  rw[e]
  exact⟨1,rfl⟩
set_option maxHeartbeats 4000000
def S16 (f:FuncId):Bool:=Nat.beq f 51||Nat.beq f 52
noncomputable def F16:Fns:=PX S16 F15
theorem qap {A:Nat->Int}:Env Try.prog A tys F16:=ju6 qao
theorem j8g {f:FuncId} (h1:SE f=false) (h15:S15 f=false) (h16:S16 f=false) {vs:List AV} {h:Hp}:jf8 F16 f vs h=none:=(jes h16).trans ((jes h15).trans (kno h1))
section
variable {h:Hp} {so:SV} {rd:List Int} {ns:List Nat} {ex:Bool} {Q:AV->Hp->Prop}
theorem qaq {kk:Bool} {d:Nat} (s:Sl h 3 1 ex EZ so rd ns):jia kk h (d+2) so=some (jbj jco rd):=s.frz (enc:=jco) (fun row a ms e=>by
 obtain⟨rfl,_⟩:=e
 rfl) (fun _=>rfl)
theorem jbr {d:Nat} {a x:AV} {l r:List AV} (h1:jib k h d a=some x) (h2:jie k h d l=some r):jie k h d (a::l)=some (x::r):=jaa.2 ⟨x,h1,jaa.2 ⟨r,h2,rfl⟩⟩
theorem j2t (s:Sl h 3 1 ex EZ so rd ns) {seed:Int} (hs:In6 seed) {x:Ms.Ins} (hx:x.op<=255) (hj:j<=1000) (hr:∀ n∈rd,0<=n/\n<1000003) (hl:rd.length<=10000):jf8 F16 51 [vi seed,.agg (jnx x),vi j,.s so] h=some (vi (jt7 seed x j rd),h):=by
 have s':=s
 rcases s' with⟨rfl,rfl,_⟩ | ⟨_,c,rows,nss,rfl,_⟩
 .exact jlj rfl (by simp only[jf2,jhq,jj0,jvd,jhr,jj1,jhn,jqe,jj2,jgo,if_true,jnx];rfl) (jvx jrk hs hx hj hr hl)
 .refine jlk rfl ?_ ⟨[vi seed,.agg (jnx x),vi j,.s (jbj jco rd)],3,?_,jvx jrk hs hx hj hr hl⟩
  .simp only[jf2,jhq,jj0,jvd,jhr,jj1,jhn,jqe,jj2,jgo,if_true,jnx];rfl
  .exact jbr rfl (jbr (jaa.2 ⟨_,jdb rfl (jdb jhu (jjx jhu)),rfl⟩) (jbr rfl (jbr (jaa.2 ⟨_,qaq s,rfl⟩) rfl)))
theorem j01 (s:Sl h 3 1 ex EZ so rd ns) {seed:Int} (hs:In6 seed) {b:Ms.Blk} {x:Ms.Ins} (hx:b.instrs[i]?=some x) (hop:x.op<=255) (hbi:b.instrs.length<=1000) (hbe:b.edges.length<=1000) (hr:∀ n∈rd,0<=n/\n<1000003) (hl:rd.length<=10000):jf8 F16 52 [vi seed,.agg (jfp b),vi i,.s so] h=some (vi (jb9 seed b i x rd),h):=by
 have s':=s
 rcases s' with⟨rfl,rfl,_⟩ | ⟨_,c,rows,nss,rfl,_⟩
 .exact jlj rfl (by simp only[jf2,jhq,jj0,jvd,jhr,jj1,jhn,jqe,jj2,jgo,if_true,jfp];rfl) (jry jrk hs hx hop hbi hbe hr hl)
 .refine jlk rfl ?_ ⟨[vi seed,.agg (jfp b),vi i,.s (jbj jco rd)],3,?_,jry jrk hs hx hop hbi hbe hr hl⟩
  .simp only[jf2,jhq,jj0,jvd,jhr,jj1,jhn,jqe,jj2,jgo,if_true,jfp];rfl
  .exact jbr rfl (jbr (jaa.2 ⟨_,jdb jhu (jdb jhu (jjx jhu)),rfl⟩) (jbr rfl (jbr (jaa.2 ⟨_,qaq s,rfl⟩) rfl)))
theorem jw0 {lo:Nat} (ok:Ok h) (s:Sl h 3 1 ex EZ so rd ns) {seed:Int} (hs:In6 seed) {x:Ms.Ins} (hx:x.op<=255) (hj:j<=1000) (hr:∀ n∈rd,0<=n/\n<1000003) (hl:rd.length<=10000):WC F16 51 [vi seed,.agg (jnx x),vi j,.s so] (h.hide lo []) Q=Q (vi (jt7 seed x j rd)) (h.hide lo []) :=
 jb8 (j2t (s.keep (fun n hn=>by rw[jo7 ok,jd8];rfl)) hs hx hj hr hl)
theorem jw1 (s:Sl h 3 1 ex EZ so rd ns) {seed:Int} (hs:In6 seed) {b:Ms.Blk} {x:Ms.Ins} (hx:b.instrs[i]?=some x) (hop:x.op<=255) (hbi:b.instrs.length<=1000) (hbe:b.edges.length<=1000) (hr:∀ n∈rd,0<=n/\n<1000003) (hl:rd.length<=10000):WC F16 52 [vi seed,.agg (jfp b),vi i,.s so] h Q=Q (vi (jb9 seed b i x rd)) h:=jb8 (j01 s hs hx hop hbi hbe hr hl)
end
def EVt (h:Hp) (row:List SV) (e:Evt) (ns:List Nat):Prop:=∃ a ex,row=[si e.block,si e.at_,a,si e.edge]/\Sl h 3 1 ex EZ a e.read ns
theorem EVt.keep {h:Hp} {row:List SV} {e:Evt} {ns:List Nat} (k:EVt h row e ns) (hk:∀ n∈ns,h'.get n=h.get n):EVt h' row e ns:=by
 obtain⟨a,ex,e1,s⟩:=k
 exact⟨a,ex,e1,s.keep hk⟩
structure RS (lo:Nat) (h:Hp) (f:Fc) (seed:Int) (p vb:Nat) (left:Int) (vs:List Int) (es:SV) (evs:List Evt):Prop where
 ok:Ok h
 xp:h.get p=some (.arr [jbj jgy f.values,jbj jfp f.blocks,si seed,si left,.slice vb 0 f.values.length f.values.length true 1,es] 69)
 xv:h.get vb=some (.arr (vs.map jco).flatten 3)
 ev:Gs lo h 73 4 (EVt h) es evs
 hp:1<=p/\p<lo
 hv:1<=vb/\vb<lo
 pv:p≠vb
 hlo:lo<=h.next
section
variable {lo:Nat} {h:Hp} {f:Fc} {seed:Int} {p vb:Nat} {left:Int} {vs:List Int} {es:SV} {evs:List Evt}
theorem Gs.imp {h:Hp} {α:Type} {ty sz:Nat} {E E':List SV->α->List Nat->Prop} {x:SV} {l:List α} (k:Gs lo h ty sz E x l) (hk:∀ n,lo<=n->n<h.next->h'.get n=h.get n) (hn:h.next<=h'.next) (hE:∀ row a ms,(∀ n∈ms,lo<=n/\n<h.next)->E row a ms->E' row a ms):Gs lo h' ty sz E' x l:=by
 obtain⟨ns,s,nd,lt⟩:=k
 exact⟨ns,s.imp (fun n hn=>hk n (lt n hn).1 (lt n hn).2) (fun row a ms hm e=>hE row a ms (fun n hn=>lt n (hm n hn)) e),nd,fun n hn'=>⟨(lt n hn').1,by have:=(lt n hn').2;omega⟩⟩
theorem RS.evk (r:RS lo h f seed p vb left vs es evs) (hk:∀ n,lo<=n->n<h.next->h'.get n=h.get n) (hn:h.next<=h'.next):Gs lo h' 73 4 (EVt h') es evs :=
 r.ev.imp hk hn (fun row a ms hm e=>e.keep (fun n hn=>hk n (hm n hn).1 (hm n hn).2))
theorem jmu (r:RS lo h f seed p vb left vs es evs) (hl:-1000000<=left/\left<=1000000) :
 WC F16 27 [.s (.ptr p 0)] h (fun v h'=>v=.s (.bool (decide (0<=left - 1)))/\RS lo h' f seed p vb (left - 1) vs es evs/\h'.next=h.next/\∀ n,n≠p->h'.get n=h.get n):=by
 refine jf9 (j8g rfl rfl rfl) j6b rfl ?_
 unfold jvl
 obtain⟨hA,eA,okA,nA,xA,gA⟩:=j84 r.ok r.hp.1 (some (.arr [jbj jgy f.values,jbj jfp f.blocks,si seed,si (left - 1),.slice vb 0 f.values.length f.values.length true 1,es] 69))
 have ok:=r.ok
 have hp:=r.hp
 have hlo:=r.hlo
 simp(disch:=first|omega|rfl) only[go_sem,jb2,r.xp,eA,xA]
 refine⟨⟨okA,xA,(gA _ (fun e=>r.pv e.symm)).trans r.xv,r.evk (fun n h1 h2=>gA n (by omega)) (by omega),hp,r.hv,r.pv,by omega⟩,nA,gA⟩
end
end Go.Proofs.Ytbogkjjoigfbjaa.Ev
