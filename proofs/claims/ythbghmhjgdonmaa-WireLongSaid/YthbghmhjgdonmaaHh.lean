/- A line of values as a script: runs by the kernel, how long its bytes are. -/
import Derived.Test.YthbghmhjgdonmaaFh
import Derived.Test.YthbghmhjgdonmaaCdWL
import Derived.Test.YthbghmhjgdonmaaHgA
import Derived.Test.YthbghmhjgdonmaaHgB
import Derived.Test.YthbghmhjgdonmaaHgC
import Derived.Test.YthbghmhjgdonmaaSd
namespace Go.Proofs.Ythbghmhjgdonmaa.Ev
noncomputable section
open Go Go.RowKit Go.Proofs.Ythbghmhjgdonmaa.Ms
set_option linter.all false
set_option maxRecDepth 100000
def j8d:Scr:=⟨5,5,1,2,[],⟨[0],[⟨[],[⟨0,[⟨2,0,false,1,0⟩],[]⟩],[]⟩]⟩⟩
theorem j4d:j6e F0 4000 12 [vi 3,vi 3,.s .nilSlice,vi 1,vi 2,.s .nilSlice] (.agg (j79 j8d))=true:=by kernel_rfl
theorem j03:up 30 (fun k=>j6e F0 4000 17 [vi ((Nat.succ k:Nat):Int)] (.agg (j6r (lnF (Nat.succ k)))))=true:=by kernel_rfl
theorem j4e:∀ k,k<30->jgc k=true
 | 0,_=>rc0
 | 1,_=>rc1
 | 2,_=>rc2
 | 3,_=>rc3
 | 4,_=>rc4
 | 5,_=>rc5
 | 6,_=>rc6
 | 7,_=>rc7
 | 8,_=>rc8
 | 9,_=>rc9
 | 10,_=>j9m
 | 11,_=>j9n
 | 12,_=>j9o
 | 13,_=>j9p
 | 14,_=>j9q
 | 15,_=>j9r
 | 16,_=>j9s
 | 17,_=>j9t
 | 18,_=>j9u
 | 19,_=>j9v
 | 20,_=>j9w
 | 21,_=>j9x
 | 22,_=>j9y
 | 23,_=>j9z
 | 24,_=>j90
 | 25,_=>j91
 | 26,_=>j92
 | 27,_=>j93
 | 28,_=>j94
 | 29,_=>j95
 | _+30,h=>absurd h (by omega)
def lnB (k:Nat):Bool:=((lnF k).blocks.map jy6).flatten.length == 1+1+3*k+3*(2*k - 1)+1
theorem j6f:(List.range 30).all (fun k=>lnB (k+1))=true:=by decide +kernel
attribute [local go_sem] Int.reduceToNat reduceCtorEq Nat.reduceAdd Nat.reduceMul Nat.reduceEqDiff Int.reduceEq Int.reduceLT Int.reduceLE Int.reduceNeg Int.reduceAdd Int.reduceSub Int.reduceMul Int.reduceNe
attribute [local go_sem ↓] reduceIte
set_option maxHeartbeats 4000000
def SL1 (f:FuncId):Bool:=Nat.beq f 17||(Nat.beq f 11||(Nat.beq f 12||Nat.beq f 16))
def L1:Fns:=PX SL1 F0
def SL2 (f:FuncId):Bool:=Nat.beq f 28
def L2:Fns:=PX SL2 L1
def SL3 (f:FuncId):Bool:=Nat.beq f 13
def L3:Fns:=PX SL3 L2
theorem j8e {A:Nat->Int}:Env Try.prog A tys L3:=jw2 (jw2 (jw2 j9k))
theorem wrL:WrF L2:=⟨fun g hg vs h=>by
 refine(jio ?_).trans ((jio ?_).trans j53)
 .cases e:SL2 g with
  | false=>rfl
  | true=>have:=f0g e;subst this;exact absurd hg (by decide)
 .cases e:SL1 g with
  | false=>rfl
  | true =>
   unfold SL1 at e
   simp only[f2j] at e
   rcases e with e | e | e | e<;>(have:=f0g e;subst this;exact absurd hg (by decide)),rfl⟩
section
variable {h:Hp} {Q:AV->Hp->Prop}
theorem j6s {g:FuncId} (h1:SL3 g=false) (h2:SL2 g=false) {vs:List AV}:jgw L3 g vs h=jgw L1 g vs h:=(jio h1).trans (jio h2)
theorem jql {n k:Int} (h1:-9223372036854775808<=n) (h2:n<=9223372036854775807) (hm:0<k) (hm2:k<=9223372036854775807):WC L3 16 [vi n,vi k] h Q=Q (vi (pick n k)) h:=jdz ((j6s rfl rfl).trans (jkm rfl rfl (jsm h1 h2 hm hm2)))
def j8u:SV:=jb6 jfn j8d.f.values
def j8v:SV:=jb6 jlx j8d.f.blocks
theorem jzf:WC L3 12 [vi 3,vi 3,.s .nilSlice,vi 1,vi 2,.s .nilSlice] h Q=Q (.agg [si 5,si 5,j8u,j8v,si 1,si 2,.nilSlice]) h:=jdz ((j6s rfl rfl).trans (jkm rfl rfl (jsw j4d)))
theorem j4f {k:Nat} (hk:k<30):WC L3 17 [vi ((k+1:Nat):Int)] h Q=Q (.agg (j6r (lnF (k+1)))) h:=jdz ((j6s rfl rfl).trans (jkm rfl rfl (jsw (j5s j03 k hk))))
theorem j6g {k:Nat} (hk:k<30):WC L1 11 [.agg [jb6 jfn (lnF (k+1)).values,jb6 jlx (lnF (k+1)).blocks],.agg [si 5,si 5]] h Q=Q (vi 0) h:=jdz (jkm rfl (by simp only[jm3,jqj,jt4,j16,jqk,jt5,jg2,jze,jt6,jkt,if_true]) (jsw (j4e k hk)))
end
def lnS (k j:Nat):Scr:=⟨5,5,1,2,List.replicate j 0,lnF (k+1)⟩
theorem j6h {k j:Nat} (hk:k<30) (hj:j<65):OkS (lnS k j):=by
 have hv:(lnF (k+1)).values.length=k+1:=by simp[lnF]
 refine⟨show 5<256 by decide,show 5<256 by decide,show 1<4294967296 by decide,show 2<4294967296 by decide,(by simp[lnS];omega),(fun n hn=>by simp[lnS] at hn;omega),(by show(lnF (k+1)).values.length<256;omega),fun v hv'=>?_,show 1<256 by decide,fun b hb=>?_⟩
 .have:v=0:=by
   have h1:v∈List.replicate (k+1) 0:=hv'
   exact(List.mem_replicate.1 h1).2
  omega
 .have hb':b=⟨[],(List.range (k+1)).map lnI,[]⟩:=by
   have h1:b∈[(⟨[],(List.range (k+1)).map lnI,[]⟩:Ms.Blk)]:=hb
   simpa using h1
  subst hb'
  refine⟨show 0<256 by decide,(fun v hv=>by cases hv),(by simp;omega),fun x hx=>?_,show 0<256 by decide,(fun e he=>by cases he)⟩
  obtain⟨i,hi,rfl⟩:=List.mem_map.1 hx
  have hi':i<k+1:=List.mem_range.1 hi
  refine⟨Nat.mod_lt _ (by decide),(by unfold lnI;split<;>simp),(by simp[lnI]),fun o ho=>?_,(fun r hr=>by cases hr)⟩
  have ho':o=⟨1,i - 1,false,1,0⟩∨o=⟨2,i,true,1,0⟩:=by
   simp only[lnI,f0i] at ho
   rcases ho with ho | ho
   .split at ho
    .cases ho
    .exact .inl (by simpa using ho)
   .exact .inr (by simpa using ho)
  rcases ho' with rfl | rfl
  .exact ⟨.inl rfl,show 1<=5 by decide,(by show i - 1<256;omega),show 0<256 by decide⟩
  .exact ⟨.inr rfl,show 1<=5 by decide,(by show i<256;omega),show 0<256 by decide⟩
theorem jzg {k j:Nat} (hk:k<30):(jvd (lnS k j)).length=11+4*j+1+(k+1)+1+1+1+3*(k+1)+3*(2*(k+1) - 1)+1:=by
 have h1:=List.all_eq_true.1 j6f k (List.mem_range.2 hk)
 have h2:((lnF (k+1)).blocks.map jy6).flatten.length=1+1+3*(k+1)+3*(2*(k+1) - 1)+1:=by simpa[lnB] using h1
 have h3:(((List.replicate j 0).map jbo).flatten).length=4*j:=by
  induction j with
  | zero=>rfl
  | succ j ih=>rw[List.replicate_succ,f1c,f0s,f0d,ih];show 4+_=_;omega
 have hv:(lnF (k+1)).values.length=k+1:=by simp[lnF]
 unfold jvd jqq
 simp only[f0d,f07,f1i]
 show 0+1+1+((jbo 1).length+((jbo 2).length+(((List.replicate j 0).map jbo).flatten.length+((lnF (k+1)).values.length+1+(((lnF (k+1)).blocks.map jy6).flatten.length+1))+1)))=_
 rw[h2,h3,hv]
 show 0+1+1+(4+(4+_))=_
 omega
theorem jzh {h:Hp} {b j:Nat} {ty:TypeId} (hb:h.get b=some (.arr (rep [si 0] j) ty)):∃ xj,LstE jfn 1 xj (List.replicate j 0)/\jfy true h 4 (.slice b 0 j j true 1)=some xj:=by
 cases j with
 | zero=>exact⟨.lst [],LstE.emp,rfl⟩
 | succ j =>
  have r1:∀ n,rep [si 0] n=(List.replicate n [si 0]).flatten:=fun n=>by
   induction n with
   | zero=>rfl
   | succ n ih =>
    have h:rep [si 0] (n+1)=jfk [si 0] (rep [si 0] n):=rfl
    rw[h,jcv,ih];rfl
  have rw':∀ n,Rows 1 EI (List.replicate n [si 0]) (List.replicate n 0) []:=fun n=>by
   induction n with
   | zero=>exact .nil
   | succ n ih=>exact .cons (ns:=[]) rfl ⟨rfl,rfl⟩ ih
  have s:Sl h ty 1 true EI (.slice b 0 (j+1) (j+1) true 1) (List.replicate (j+1) 0) [b]:=.inr ⟨by simp[List.replicate_succ],b,List.replicate (j+1) [si 0],[],by simp,by rw[hb,r1],rw' (j+1),rfl⟩
  exact⟨jb6 jfn (List.replicate (j+1) 0),LstE.enc (fun _=>rfl),s.frz (fun _ _ _ e=>EI.frz e) (fun _=>rfl)⟩
theorem j04 {k j:Nat} (hk:k<30) (hj:j<65) {h:Hp} {b:Nat} {ty:TypeId} (hb:h.get b=some (.arr (rep [si 0] j) ty)) {Q:AV->Hp->Prop} :
 WC L3 13 [.agg [si 5,si 5,jb6 jfn (lnF (k+1)).values,jb6 jlx (lnF (k+1)).blocks,si 1,si 2,.slice b 0 j j true 1]] h Q=Q (j6d (jvd (lnS k j))) h:=by
 obtain⟨xj,lj,fj⟩:=jzh hb
 have oks:=j6h hk hj
 have hl:(jvd (lnS k j)).length<=20000:=by rw[jzg hk];omega
 have hc:∀ h Q,WC L2 28 [.agg (jiy (lnS k j) xj)] h Q=Q (vi 0) h:=fun h Q=>jdz (jkm rfl (by
  have hg:=lj.grd
  unfold jiy
  simp only[jm3,jqj,jt4,j16,jqk,jt5,jg2,jze,jt6,jkt,if_true,hg]) (j4c (F:=L1) (s:=lnS k j) (fun vs h=>(jio rfl).trans j53) rfl j3c lj (fun h Q=>j6g hk) (show 1<=1073741824 by decide) (show 2<=5000 by decide) (by simp[lnS];omega) (fun n hn=>by simp[lnS] at hn;omega)))
 have p:jiv false L2 13 [.agg (jiy (lnS k j) xj)] (j6d (jvd (lnS k j))):=by
  have e:=j4b (kk:=false) wrL j3c lj oks hl hc
  rw[jy9 (j6b oks)] at e
  exact e
 have z:jnm true h 4 [.agg [si 5,si 5,jb6 jfn (lnF (k+1)).values,jb6 jlx (lnF (k+1)).blocks,si 1,si 2,.slice b 0 j j true 1]]=some [.agg (jiy (lnS k j) xj)]:=by
  have fv:jfy true h 4 (jb6 jfn (lnF (k+1)).values)=some (jb6 jfn (lnF (k+1)).values):=by cases (lnF (k+1)).values<;>rfl
  have fb:jfy true h 4 (jb6 jlx (lnF (k+1)).blocks)=some (jb6 jlx (lnF (k+1)).blocks):=by cases (lnF (k+1)).blocks<;>rfl
  have e:=jc5 (f:=jfy true h 4) (a:=si 5) rfl (jc5 (a:=si 5) rfl (jc5 fv (jc5 fb (jc5 (a:=si 1) rfl (jc5 (a:=si 2) rfl (jc5 fj (show jgd (jfy true h 4) []=some [] from rfl)))))))
  show ob (ob (jgd (jfy true h 4) _) (fun y=>some (AV.agg y))) (fun y=>ob (jnm true h 4 []) (fun r=>some (y::r)))=_
  rw[e]
  rfl
 have g:jhi [.agg [si 5,si 5,jb6 jfn (lnF (k+1)).values,jb6 jlx (lnF (k+1)).blocks,si 1,si 2,.slice b 0 j j true 1]]=false:=by
  show oif (oif (grd (jb6 jfn (lnF (k+1)).values)) (oif (grd (jb6 jlx (lnF (k+1)).blocks)) false false) false) true false=false
  rw[jg2,jg2]
  rfl
 exact jdz (j27 rfl g ⟨_,4,z,p⟩)
theorem j6i {h:Hp} (ok:Ok h) {n q:Int} (hn:In6 n) (hq:In6 q):WC L3 6 [vi n,vi q] h (fun v _=>v=.s (.bool true)):=by
 refine jin ((j6s rfl rfl).trans ((jio rfl).trans j53)) j8c rfl ?_
 unfold j15
 have hpos:=ok.pos
 obtain⟨k,hk,ek⟩:∃ k:Nat,k<30/\pick n 30=(k:Int):=⟨pk n 30,j0u (by omega),jsl (m:=30) (by omega)⟩
 obtain⟨j,hj,ej⟩:∃ j:Nat,j<65/\pick q 65=(j:Int):=⟨pk q 65,j0u (by omega),jsl (m:=65) (by omega)⟩
 have wk:=fun h Q=>jql (h:=h) (Q:=Q) (n:=n) (k:=30) hn.1 hn.2 (by omega) (by omega)
 have wj:=fun h Q=>jql (h:=h) (Q:=Q) (n:=q) (k:=65) hq.1 hq.2 (by omega) (by omega)
 rw[ek] at wk
 rw[ej] at wj
 have e1:(1:Int)+(k:Int)=((k+1:Nat):Int):=by omega
 obtain⟨hA,eA,okA,nA,xA,gA⟩:=ju9 ok [.int .i64 0,.int .i64 0,.nilSlice,.nilSlice,.int .i64 0,.int .i64 0,.nilSlice] [si 5,si 5,j8u,j8v,si 1,si 2,.nilSlice] 45
 obtain⟨hB,eB,okB,nB,xB,gB⟩:=j8t okA (b:=h.next) hpos (some (.arr [si 5,si 5,jb6 jfn (lnF (k+1)).values,jb6 jlx (lnF (k+1)).blocks,si 1,si 2,.nilSlice] 45))
 have hmk:=jxg (e:=3) (size:=1) (bytes:=8) (z:=[.int .i64 0]) (m:=j) okB (by omega) (by omega)
 obtain⟨hC,eC,okC,nC,xC,gC⟩:=j4m okB (rep [.int .i64 0] j) 3
 obtain⟨hD,eD,okD,nD,xD,gD⟩:=j8t okC (b:=h.next) hpos (some (.arr [si 5,si 5,jb6 jfn (lnF (k+1)).values,jb6 jlx (lnF (k+1)).blocks,si 1,si 2,.slice hB.next 0 j j true 1] 45))
 have yC:=(gC h.next (by omega)).trans xB
 have yD:hD.get hB.next=some (.arr (rep [si 0] j) 3):=(gD _ (by omega)).trans xC
 have wE:=fun Q=>j04 (Q:=Q) hk hj yD
 have wS:=fun(h:Hp) (Q:AV->Hp->Prop)=>jzf (h:=h) (Q:=Q)
 have wL:=fun(h:Hp) (Q:AV->Hp->Prop)=>j4f (h:=h) (Q:=Q) hk
 have hb:=jzg (j:=j) hk
 have lB:=jb5 (enc:=j8a) (l:=jvd (lnS k j))
 have lj:jqp (.s (.slice hB.next 0 j j true 1))=some (vi j):=rfl
 unfold j6r at wL
 rw[eC] at hmk
 simp(disch:=first|omega|rfl) only[go_sem,jbx,wS,eA,xA,wk,e1,wL,eB,wj,hmk,yC,eD,xD,wE,j6d,lB,lj]
 rw[decide_eq_true (by rw[hb];omega)]
end
end Go.Proofs.Ythbghmhjgdonmaa.Ev
