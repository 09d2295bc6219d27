/- Dominators of any graph: where two ways up meet. -/
import Derived.Test.YtkplfnkgodnmaaaJm
namespace Go.Proofs.Ytkplfnkgodnmaaa.Ev
noncomputable section
open Go Go.RowKit Go.Proofs.Ytkplfnkgodnmaaa.Ms
attribute [local go_sem] Int.reduceToNat reduceCtorEq Nat.reduceAdd Nat.reduceMul Nat.reduceEqDiff Int.reduceEq Int.reduceLT Int.reduceLE Int.reduceNeg Int.reduceAdd Int.reduceSub Int.reduceMul Int.reduceNe
attribute [local go_sem ↓] reduceIte
set_option linter.all false
set_option maxRecDepth 100000
set_option maxHeartbeats 8000000
variable {x4 x6 x7:AV} {f:Fc} {c j di:Nat}
structure Num (n:Nat) (L pl:Nat->Nat):Prop where
 l:∀ i,i<n->L i<n
 p:∀ b,b<n->pl b<n
 pL:∀ i,i<n->pl (L i)=i
 Lp:∀ b,b<n->L (pl b)=b
 z:L 0=0
 n1:1<=n
 n2:n<=16
def dv (L:Nat->Nat):Option Nat->SV
 | none=>si (-1)
 | some j=>si (L j)
abbrev idX (L pl:Nat->Nat) (D:Nat->Option Nat):Nat->SV:=fun b=>dv L (D (pl b))
structure IdH (n:Nat) (L pl:Nat->Nat) (k c di:Nat) (ex:Bool) (h:Hp) (D:Nat->Option Nat):Prop where
 pc:h.get (k+2)=some (.arr [.slice (k+1) 0 n n true 1] 26)
 pa:h.get (k+1)=some (.arr ((List.range n).map (fun b=>si (pl b))) 3)
 ic:h.get c=some (.arr [.slice di 0 n n ex 1] 26)
 ia:h.get di=some (.arr ((List.range n).map (idX L pl D)) 3)
section
variable {F:Fns} (S:SF F)
include S
theorem qib {n k:Nat} {ex:Bool} {L pl:Nat->Nat} (N:Num n L pl) {h:Hp} (ok:Ok h) {D:Nat->Option Nat} (H:IdH n L pl k c di ex h D) (DK:DomOk n D) (hj:j<n) {x5:AV} {Q:Ex->St->Prop} :
 ∀ (d i:Nat) (_:i<=d) (_:i<n) (_:D i≠none) {x6:AV}
  (hQ:∀ i' x6,i'<=j->i'<=i->(j<i->i'<i)->D i'≠none->(∀ m,jc1 D i' j m->jc1 D i j m)->Q (.exit 2) (.mk [vi (L i'),vi (L j),.s (.ptr (k+2) 0),.s (.ptr c 0),x4,x5,x6,x7] h)),
  W F jvn.loop (.mk [vi (L i),vi (L j),.s (.ptr (k+2) 0),.s (.ptr c 0),x4,x5,x6,x7] h) Q
 | d,i,hd,hi,hk,x6,hQ=>by
  have pc:=H.pc
  have pa:=H.pa
  have i1:=ixI (b:=k+1) (ex:=true) (N.l i hi)
  have i2:=ixI (b:=k+1) (ex:=true) (N.l j hj)
  have r1:rdB (some (.arr ((List.range n).map (fun b=>si (pl b))) 3)) (L i) 1=some [si i]:=by rw[rd1 (jbn (N.l i hi)),N.pL i hi]
  have r2:rdB (some (.arr ((List.range n).map (fun b=>si (pl b))) 3)) (L j) 1=some [si j]:=by rw[rd1 (jbn (N.l j hj)),N.pL j hj]
  rw[jae]
  by_cases c1:j<i
  .have c1':((j:Int)<(i:Int))=True:=eq_true (by omega)
   obtain⟨i',hi'⟩:∃ i',D i=some i':=Option.ne_none_iff_exists'.1 hk
   have lt:=DK.lt i i' (by omega) hi'
   have ic:=H.ic
   have ia:=H.ia
   have i3:=ixI (b:=di) (ex:=ex) (N.l i hi)
   have r3:rdB (some (.arr ((List.range n).map (idX L pl D)) 3)) (L i) 1=some [si (L i')]:=by
    rw[rd1 (jbn (N.l i hi))]
    show some [dv L (D (pl (L i)))]=_
    rw[N.pL i hi,hi'];rfl
   unfold jvn j9w
   simp(disch:=first|omega|rfl) only[go_sem,pc,i1,i2,pa,r1,r2,c1',ic,i3,ia,r3]
   match d,hd with
   | 0,hd=>exact absurd hd (by omega)
   | d+1,hd =>
    exact qib N ok H DK hj d i' (by omega) (by omega) (DK.up i i' (by omega) hi') (fun i2 x6 a1 a2 a3 a4 a5=>hQ i2 x6 a1 (by omega) (fun _=>by omega) a4 (fun m hm=>jc1.left DK c1 hi' (a5 m hm)))
  .have c1':((j:Int)<(i:Int))=False:=eq_false (by omega)
   unfold jvn
   simp(disch:=first|omega|rfl) only[go_sem,pc,i1,i2,pa,r1,r2,c1']
   exact hQ i _ (by omega) (f0d _) (fun h=>absurd h c1) hk (fun m hm=>hm)
theorem qic {n k:Nat} {ex:Bool} {L pl:Nat->Nat} (N:Num n L pl) {h:Hp} (ok:Ok h) {D:Nat->Option Nat} (H:IdH n L pl k c di ex h D) (DK:DomOk n D) {i:Nat} (hi:i<n) {Q:Ex->St->Prop} :
 ∀ (d j:Nat) (_:j<=d) (_:j<n) (_:D j≠none) {x5:AV}
  (hQ:∀ j' x5,j'<=i->j'<=j->(i<j->j'<j)->D j'≠none->(∀ m,jc1 D i j' m->jc1 D i j m)->Q (.exit 4) (.mk [vi (L i),vi (L j'),.s (.ptr (k+2) 0),.s (.ptr c 0),x4,x5,x6,x7] h)),
  W F jvo.loop (.mk [vi (L i),vi (L j),.s (.ptr (k+2) 0),.s (.ptr c 0),x4,x5,x6,x7] h) Q
 | d,j,hd,hj,hk,x5,hQ=>by
  have pc:=H.pc
  have pa:=H.pa
  have i1:=ixI (b:=k+1) (ex:=true) (N.l i hi)
  have i2:=ixI (b:=k+1) (ex:=true) (N.l j hj)
  have r1:rdB (some (.arr ((List.range n).map (fun b=>si (pl b))) 3)) (L i) 1=some [si i]:=by rw[rd1 (jbn (N.l i hi)),N.pL i hi]
  have r2:rdB (some (.arr ((List.range n).map (fun b=>si (pl b))) 3)) (L j) 1=some [si j]:=by rw[rd1 (jbn (N.l j hj)),N.pL j hj]
  rw[jae]
  by_cases c1:i<j
  .have c1':((i:Int)<(j:Int))=True:=eq_true (by omega)
   obtain⟨j',hj'⟩:∃ i',D j=some i':=Option.ne_none_iff_exists'.1 hk
   have lt:=DK.lt j j' (by omega) hj'
   have ic:=H.ic
   have ia:=H.ia
   have i3:=ixI (b:=di) (ex:=ex) (N.l j hj)
   have r3:rdB (some (.arr ((List.range n).map (idX L pl D)) 3)) (L j) 1=some [si (L j')]:=by
    rw[rd1 (jbn (N.l j hj))]
    show some [dv L (D (pl (L j)))]=_
    rw[N.pL j hj,hj'];rfl
   unfold jvo j9x
   simp(disch:=first|omega|rfl) only[go_sem,pc,i1,i2,pa,r1,r2,c1',ic,i3,ia,r3]
   match d,hd with
   | 0,hd=>exact absurd hd (by omega)
   | d+1,hd =>
    exact qic N ok H DK hi d j' (by omega) (by omega) (DK.up j j' (by omega) hj') (fun i2 x6 a1 a2 a3 a4 a5=>hQ i2 x6 a1 (by omega) (fun _=>by omega) a4 (fun m hm=>jc1.right DK c1 hj' (a5 m hm)))
  .have c1':((i:Int)<(j:Int))=False:=eq_false (by omega)
   unfold jvo
   simp(disch:=first|omega|rfl) only[go_sem,pc,i1,i2,pa,r1,r2,c1']
   exact hQ j _ (by omega) (f0d _) (fun h=>absurd h c1) hk (fun m hm=>hm)
theorem qid {n k:Nat} {ex:Bool} {L pl:Nat->Nat} (N:Num n L pl) {h:Hp} (ok:Ok h) {D:Nat->Option Nat} (H:IdH n L pl k c di ex h D) (DK:DomOk n D) {Q:Ex->St->Prop} :
 ∀ (d i j:Nat) (_:i+j<=d) (_:i<n) (_:j<n) (_:D i≠none) (_:D j≠none) {x5 x6 x7:AV}
  (hQ:∀ m x1 x5 x6 x7,m<n->jc1 D i j m->Q (.exit 0) (.mk [vi (L m),x1,.s (.ptr (k+2) 0),.s (.ptr c 0),x4,x5,x6,x7] h)),
  W F jvp.loop (.mk [vi (L i),vi (L j),.s (.ptr (k+2) 0),.s (.ptr c 0),x4,x5,x6,x7] h) Q
 | d,i,j,hd,hi,hj,ki,kj,x5,x6,x7,hQ=>by
  rw[jae]
  by_cases e:i=j
  .subst e
   unfold jvp
   have c1:((L i:Int)≠(L i:Int))=False:=eq_false (fun h=>h rfl)
   simp(disch:=first|omega|rfl) only[go_sem,ne_eq,not_true_eq_false]
   exact hQ i _ _ _ _ hi (jc1.same DK ki)
  .have nl:L i≠L j:=fun h=>e (by rw[←N.pL i hi,←N.pL j hj,h])
   have c1:((L i:Int)≠(L j:Int))=True:=eq_true (by omega)
   have c2:((L i:Int)=(L j:Int))=False:=eq_false (by omega)
   unfold jvp j9y
   simp(disch:=first|omega|rfl) only[go_sem,c1,c2]
   refine qib S N ok H DK hj i i (f0d _) hi ki (fun i' x6 a1 a2 a3 a4 a5=>?_)
   simp(disch:=first|omega|rfl) only[go_sem]
   refine qic S N ok H DK (i:=i') (by omega) j j (f0d _) hj kj (fun j' x5 b1 b2 b3 b4 b5=>?_)
   simp(disch:=first|omega|rfl) only[go_sem]
   match d,hd with
   | 0,hd=>exact absurd hd (by omega)
   | d+1,hd =>
    exact qid N ok H DK d i' j' (by omega) (by omega) (by omega) a4 b4 (fun m x1 x5 x6 x7 hm h=>hQ m x1 x5 x6 x7 hm (a5 m (b5 m h)))
theorem qie {n k:Nat} {ex:Bool} {L pl:Nat->Nat} (N:Num n L pl) {h:Hp} (ok:Ok h) {D:Nat->Option Nat} (H:IdH n L pl k c di ex h D) (DK:DomOk n D) {i:Nat} (hi:i<n) (hj:j<n) (ki:D i≠none) (kj:D j≠none) :
 WC F 59 [vi (L i),vi (L j),.s (.ptr (k+2) 0),.s (.ptr c 0)] h (fun v h'=>h'=h/\∃ m,v=vi (L m)/\m<n/\jc1 D i j m):=by
 refine jan (S.X _ (by simp) _ _) ((S.T _).trans qnt) rfl ?_
 unfold qh6
 simp(disch:=first|omega|rfl) only[go_sem]
 refine qid S N ok H DK (i+j) i j (f0d _) hi hj ki kj (fun m x1 x5 x6 x7 hm h=>?_)
 simp(disch:=first|omega|rfl) only[go_sem]
 exact⟨m,rfl,hm,h⟩
end
def bdV (y:Option AV):Option Nat:=ob y (fun x=>jg1 x (fun _ n=>Int.casesOn (motive:=fun _=>Option Nat) n (fun m=>some m) (fun _=>none)))
theorem qlo {k:Nat}:bdV (some (vi (k:Int)))=some k:=rfl
theorem qlp:bdV (some (vi 1))=some 1:=rfl
section
variable {st fr:List AV} {h:Hp}
theorem jvs:jg2 st fr none=some:=rfl
theorem jvt {o:Od}:jg2 st fr (some o)=fun _=>bdV (ev st fr o):=rfl
def qif (size:Nat) (x:Option AV) (lo hi:Nat->Option Nat):Option AV:=ob x (fun v=>ja4 v
 (ob (hi 0) (fun hi'=>ob (lo 0) (fun lo'=>oif (Nat.beq (Nat.add hi' lo') 0) (some (.s .nilSlice)) none)))
 (fun b off len mc ex sz=>ob (hi len) (fun hi'=>ob (lo 0) (fun lo' =>
  oif (Nat.ble hi' mc) (oif (Nat.ble lo' hi') (oif (Nat.beq sz size) (some (.s (.slice b (Nat.add off (Nat.mul lo' size)) (Nat.sub hi' lo') (Nat.sub mc lo') ex sz))) none) none) none)))
 (fun rows=>ob (hi (ja9 rows)) (fun hi'=>ob (lo 0) (fun lo' =>
  oif (Nat.ble hi' (ja9 rows)) (oif (Nat.ble lo' hi') (oif (jkp size rows) (ob (ja3 (Nat.sub hi' lo') (jbd lo' rows)) (fun r=>some (.s (.lst r)))) none) none) none)))
 (ob (hi 0) (fun hi'=>ob (lo 0) (fun lo'=>oif (Nat.beq (Nat.add hi' lo') 0) (some (.s .emp)) none))))
theorem j3n {size:Nat} {x:Od} {lo hi:Option Od}:pop st fr (.slice size x lo hi)=qif size (ev st fr x) (jg2 st fr lo) (jg2 st fr hi):=rfl
theorem j3o {size b off len mc l r:Nat} {ex:Bool} {lo hi:Nat->Option Nat} (h1:lo 0=some l) (h2:hi len=some r) (h3:l<=r) (h4:r<=mc):qif size (some (.s (.slice b off len mc ex size))) lo hi=some (.s (.slice b (off+l*size) (r - l) (mc - l) ex size)):=by
 show ob (hi len) (fun hi'=>ob (lo 0) (fun lo'=>oif (Nat.ble hi' mc) (oif (Nat.ble lo' hi') (oif (Nat.beq size size) (some (AV.s (.slice b (off+lo'*size) (hi' - lo') (mc - lo') ex size))) none) none) none))=_
 rw[h1,h2]
 show oif (Nat.ble r mc) (oif (Nat.ble l r) (oif (Nat.beq size size) (some (AV.s (.slice b (off+l*size) (r - l) (mc - l) ex size))) none) none) none=_
 rw[jb5 h4,jb5 h3,f1h];rfl
theorem qig {size b off len mc k:Nat} {ex:Bool} (hk:k<=mc):qif size (some (.s (.slice b off len mc ex size))) some (fun _=>some k)=some (.s (.slice b off k mc ex size)):=by
 rw[j3o (lo:=some) (hi:=fun _=>some k) (l:=0) (r:=k) rfl rfl (f1r _) hk,f1s,f12,Nat.sub_zero,Nat.sub_zero]
theorem qih {size b off len mc k:Nat} {ex:Bool} (hk:k<=len) (hl:len<=mc):qif size (some (.s (.slice b off len mc ex size))) (fun _=>some k) some=some (.s (.slice b (off+k*size) (len - k) (mc - k) ex size)):=j3o rfl rfl hk hl
def qmv (h:Hp) (size:Nat) (x y:Option AV):R:=ob x (fun v=>ob y (fun w=>ja4 v (jx3 w (ok (.s (.int .i64 0)) h)) (fun b off n _ _ _=>ja4 w (ok (.s (.int .i64 0)) h) (fun b' off' m _ _ _ =>
 ob (rd h b' off' (Nat.mul (oif (Nat.ble n m) n m) size)) (fun cs=>ob (wr h b off cs) (fun h=>ok (.s (.int .i64 (Int.ofNat (oif (Nat.ble n m) n m)))) h)))
  (fun rows=>ob (jim size rows) (fun all=>ob (ja3 (Nat.mul (oif (Nat.ble n (ja9 rows)) n (ja9 rows)) size) all) (fun cs=>ob (wr h b off cs) (fun h=>ok (.s (.int .i64 (Int.ofNat (oif (Nat.ble n (ja9 rows)) n (ja9 rows))))) h))))
  (ok (.s (.int .i64 0)) h))
 (fun _=>none) (jx3 w (ok (.s (.int .i64 0)) h))))
theorem j3p {size:Nat} {x y:Od}:jcp st fr h (.copy size x y)=qmv h size (ev st fr x) (ev st fr y):=rfl
theorem qai {size b o n mc sz b' o' m mc' sz' t:Nat} {ex ex':Bool} {cs l l':List SV} {ty:TypeId} (okh:Ok h) (ht:t=if n<=m then n else m) (hr:rdB (h.get b') o' (t*size)=some cs) (hb:h.get b=some (.arr l ty)) (hw:jat o cs l=some l') :
 qmv h size (some (.s (.slice b o n mc ex sz))) (some (.s (.slice b' o' m mc' ex' sz')))=some (vi (t:Int),h.put b (some (.arr l' ty))):=by
 have e:oif (Nat.ble n m) n m=t:=by
  rw[jaj,ht]
  by_cases c:n<=m
  .rw [if_pos c,if_pos (jb5 c)]
  .rw [if_neg c,if_neg (fun h=>c (f0i h))]
 show ob (rd h b' o' (oif (Nat.ble n m) n m*size)) (fun cs=>ob (wr h b o cs) (fun h=>ok (.s (.int .i64 (Int.ofNat (oif (Nat.ble n m) n m)))) h))=_
 rw[e]
 show ob (rdB (h.get b') o' (t*size)) (fun cs=>ob (wr h b o cs) (fun h=>ok (.s (.int .i64 (Int.ofNat t))) h))=_
 rw[hr]
 show ob (wr h b o cs) _=_
 rw[j6n okh,hb,j0l,hw]
 rfl
end
theorem qd9 {a z:SV} {m k t ty:Nat} (h:t<=m):rdB (some (.arr (List.replicate m a++List.replicate k z) ty)) 0 (t*1)=some (List.replicate t a):=by
 rw[jdm,jaz,f1e,f2w]
 refine(jam _).2 ⟨by simp;omega,?_⟩
 rw[f1g (by simp;omega),List.take_replicate,Nat.min_eq_left h]
theorem j3q {a z:SV} {m n t o:Nat} (h:m+t<=n) (ho:o=m):jat o (List.replicate t a) (List.replicate m a++List.replicate (n - m) z)=some (List.replicate (m+t) a++List.replicate (n - (m+t)) z):=by
 subst ho
 refine(jb7 _).2 ⟨by simp;omega,?_⟩
 rw[f1g (by simp),List.take_replicate,Nat.min_self,List.drop_append,f1t (by simp),List.drop_replicate,List.length_replicate,List.length_replicate,←List.replicate_append_replicate,f1l,f0l]
 congr 3
 omega
theorem jmc (x:SV):∀ n,rep [x] n=List.replicate n x
 | 0=>rfl
 | n+1=>by
  have:rep [x] (n+1)=[x]++rep [x] n:=show jeq [x] (rep [x] n)=_ from jb2 ..
  rw[this,jmc x n];rfl
theorem cvU {n:Nat} (h:n<=1000000):jnu .u64 (n:Int)=some (.s (.int .u64 (n:Int))):=by
 show oif (inR .u64 (.ofNat n)) _ _=_
 have:inR .u64 (.ofNat n)=true:=by
  show Nat.ble n _=true
  exact jb5 (f0w h (by decide))
 rw[this];rfl
theorem gtU {a b:Int}:jcv .gt (.int .u64 a) (.int .u64 b)=some (vb (decide (b<a))):=by
 show some (AV.s (.bool (jfb (ile a b))))=_;rw[jco,jdy];congr 3;by_cases h:b<a<;>simp[h]
 omega
theorem qn5:jnu .u64 1=some (.s (.int .u64 1)):=cvU (n:=1) (by omega)
theorem cvI {n:Nat} (h:n<=1000000):jnu .i64 (n:Int)=some (vi (n:Int)):=by
 show oif (inR .i64 (.ofNat n)) _ _=_
 have:inR .i64 (.ofNat n)=true:=by
  show Nat.ble n _=true
  exact jb5 (f0w h (by decide))
 rw[this];rfl
section
variable {F:Fns} (S:SF F)
include S
theorem qlq {n d:Nat} (hn:n<=16) {x0 x1 x2 x8 x9:AV} {h0:Hp} (hd1:1<=d) {Q:Ex->St->Prop}
 (hQ:∀ hj x3,Ok hj->hj.next=h0.next->hj.get d=some (.arr (List.replicate n (si (-1))) 3)->(∀ k,k≠d->hj.get k=h0.get k)->Q (.exit 0) (.mk [x0,x1,x2,x3,vi n,.s (.slice d 0 n n true 1),x6,x7,x8,x9] hj)) :
 ∀ (r m:Nat) (_:m+r=n) (_:1<=m) {hi:Hp} (_:Ok hi) (_:hi.next=h0.next) (_:hi.get d=some (.arr (List.replicate m (si (-1))++List.replicate (n - m) (si 0)) 3)) (_:∀ k,k≠d->hi.get k=h0.get k) {x3:AV},
  W F jpd.loop (.mk [x0,x1,x2,x3,vi m,.s (.slice d 0 n n true 1),x6,x7,x8,x9] hi) Q:=by
 intro r
 induction r using Nat.strongRecOn with
 | ind r ih =>
 intro m hm m1 hi ok nx xd gi x3
 rw[jae]
 by_cases c1:m<n
 .have c1':((m:Int)<(n:Int))=True:=eq_true (by omega)
  obtain⟨t,ht⟩:∃ t,t=(if n - m<=m then n - m else m):=⟨_,rfl⟩
  have ht2:1<=t/\t<=m/\m+t<=n:=by split at ht<;>omega
  have e1:=qih (size:=1) (b:=d) (off:=0) (ex:=true) (k:=m) (len:=n) (mc:=n) (by omega) (f0d n)
  rw[f0y,f2w] at e1
  have e2:=qig (size:=1) (b:=d) (off:=0) (ex:=true) (len:=n) (mc:=n) (k:=m) (by omega)
  have rr:rdB (hi.get d) 0 (t*1)=some (List.replicate t (si (-1))):=by rw[xd];exact qd9 ht2.2.1
  have ww:jat m (List.replicate t (si (-1))) (List.replicate m (si (-1))++List.replicate (n - m) (si 0))=some (List.replicate (m+t) (si (-1))++List.replicate (n - (m+t)) (si 0)):=j3q ht2.2.2 rfl
  have e3:=qai (h:=hi) (size:=1) (mc:=n - m) (sz:=1) (mc':=n) (sz':=1) (ex:=true) (ex':=true) ok ht rr xd ww
  obtain⟨hA,eA,okA,nA,xA,gA⟩:=pt1 ok hd1 (some (.arr (List.replicate (m+t) (si (-1))++List.replicate (n - (m+t)) (si 0)) 3))
  rw[eA] at e3
  have hs:(m:Int)+(t:Int)=((m+t:Nat):Int):=by omega
  unfold jpd j27
  simp(disch:=first|omega|rfl) only[go_sem,jac,c1',j3n,jvt,jvs,qlo,e1,e2,j3p,e3,hs]
  exact ih (r - t) (by omega) (m+t) (by omega) (by omega) okA (by omega) xA (fun k hk=>(gA k hk).trans (gi k hk))
 .have c1':((m:Int)<(n:Int))=False:=eq_false (by omega)
  obtain rfl:m=n:=by omega
  unfold jpd
  simp(disch:=first|omega|rfl) only[go_sem,c1',f0q]
  refine hQ hi _ ok nx ?_ gi
  rw[xd,Nat.sub_self]
  simp
theorem qea {h:Hp} (ok:Ok h) {n b:Nat} (n1:1<=n) (n2:n<=16) (hb:h.get b=some (.arr [si (-1)] 3)) (b1:1<=b/\b<h.next) :
 WC F 58 [.s (.slice b 0 1 1 true 1),vi n] h (fun v h'=>v=.s (.slice h.next 0 n n true 1)/\Gw h h'/\h'.next=h.next+1/\h'.get h.next=some (.arr (List.replicate n (si (-1))) 3)):=by
 refine jan (S.X _ (by simp) _ _) ((S.T _).trans qlm) rfl ?_
 unfold j90
 have c1:((n:Int)<0)=False:=eq_false (by omega)
 have c2:(9223372036854775807<(n:Int))=False:=eq_false (by omega)
 have u1:=cvU (n:=n) (by omega)
 have v1:=cvI (n:=n) (by omega)
 have mm:=fun(Q:AV->Hp->Prop) (h:Hp)=>jl8 (Q:=Q) (S.M n h n2)
 have hp:=ok.pos
 obtain⟨hA,eA,gA,nA,xA⟩:=bxG ok (rep [si 0] n) 3
 have okA:=gA.ok
 have ms:=jhf (e:=3) (size:=1) (bytes:=8) (z:=[si 0]) (m:=n) ok (by omega) (by omega)
 rw[eA] at ms
 rw[jmc] at xA
 have xb:=(gA.g b b1.2).trans hb
 have rr:rdB (hA.get b) 0 (1*1)=some (List.replicate 1 (si (-1))):=by rw[xb];rfl
 have ww:jat 0 (List.replicate 1 (si (-1))) (List.replicate n (si 0))=some (List.replicate 1 (si (-1))++List.replicate (n - 1) (si 0)):=by
  have:=j3q (a:=si (-1)) (z:=si 0) (m:=0) (n:=n) (t:=1) (o:=0) (by omega) rfl
  simpa using this
 have e3:=qai (h:=hA) (size:=1) (n:=n) (m:=1) (mc:=n) (sz:=1) (mc':=1) (sz':=1) (ex:=true) (ex':=true) (t:=1) okA (by split<;>omega) rr xA ww
 obtain⟨hB,eB,okB,nB,xB,gB⟩:=pt1 okA hp (some (.arr (List.replicate 1 (si (-1))++List.replicate (n - 1) (si 0)) 3))
 rw[eB] at e3
 simp(disch:=first|omega|rfl) only[go_sem,c1]
 unfold j29
 simp(disch:=first|omega|rfl) only[go_sem,qn5,u1,mm,gtU,c2]
 unfold j28
 simp(disch:=first|omega|rfl) only[go_sem,v1,ms,j3p,e3]
 refine qlq S n2 (h0:=hB) (d:=h.next) hp (fun hj x3 okj nj xj gj=>?_) (n - 1) 1 (by omega) (by omega) okB rfl xB (fun _ _=>rfl)
 simp(disch:=first|omega|rfl) only[go_sem]
 exact⟨⟨okj,by omega,fun k hk=>(gj k (by omega)).trans ((gB k (by omega)).trans (gA.g k hk))⟩,by omega,xj⟩
end
theorem Bh.at {b:Nat}:∀ {M:List Nat},Bh f b M->∀ (t x:Nat),M[t]?=some x->(∃ t' p,t<t'/\M[t']?=some p/\Eg f p x)∨Eg f b x
 | [],_,t,x,h=>by simp at h
 | y::M,⟨h1,h2⟩,0,x,h=>by
  obtain rfl:y=x:=by simpa using h
  rcases h1 with⟨p,hp,e⟩ | e
  .obtain ⟨i,hi⟩:=f2h hp
   exact .inl ⟨i+1,p,by omega,by simpa using hi,e⟩
  .exact .inr e
 | y::M,⟨h1,h2⟩,t+1,x,h=>by
  rcases Bh.at h2 t x (by simpa using h) with⟨t',p,a1,a2,a3⟩ | e
  .exact .inl ⟨t'+1,p,by omega,by simpa using a2,a3⟩
  .exact .inr e
theorem qii {l:List Nat} (o:Ord f l) (hn:l.length=f.blocks.length) (n2:f.blocks.length<=16):∃ L pl,Num f.blocks.length L pl/\(∀ i,i<f.blocks.length->l[i]?=some (L i))/\∀ i,0<i->i<f.blocks.length->∃ j,j<i/\Eg f (L j) (L i):=by
 obtain⟨nd,lt,M,hl,hB⟩:=o
 obtain⟨n,hn0⟩:∃ n,f.blocks.length=n:=⟨_,rfl⟩
 rw[hn0] at hn lt n2 ⊢
 have n1:1<=n:=by rw[←hn,hl];simp
 have getL:∀ i,i<n->l[i]?=some (l.getD i 0):=fun i hi=>by
  rw[f0n,f0b (by omega)];rfl
 have inj:∀ i j,i<n->j<n->l.getD i 0=l.getD j 0->i=j:=fun i j hi hj e=>by
  have a:=getL i hi
  have b:=getL j hj
  rw[e] at a
  obtain⟨a1,a2⟩:=f0e.1 a
  obtain⟨b1,b2⟩:=f0e.1 b
  have pw:=List.pairwise_iff_getElem.1 nd
  rcases f2k i j with h | h | h
  .exact absurd (a2.trans b2.symm) (pw i j a1 b1 h)
  .exact h
  .exact absurd (b2.trans a2.symm) (pw j i b1 a1 h)
 have sur:∀ b,b<n->∃ i,i<n/\l.getD i 0=b:=fun b hb=>by
  by_cases hm:b∈l
  .obtain ⟨i,hi⟩:=f2h hm
   refine⟨i,by have:=(f0e.1 hi).1;omega,?_⟩
   rw[f0n,hi];rfl
  .exfalso
   have h1:=jpf (a:=b::l) (b:=List.range n) (f09.2 ⟨hm,nd⟩) (fun x hx=>f1z.2 (by
    rcases f0h.1 hx with rfl | hx
    .exact hb
    .exact lt x hx))
   simp at h1
   omega
 have hp:∃ pl:Nat->Nat,∀ b,b<n->pl b<n/\l.getD (pl b) 0=b:=by
  refine⟨fun b=>if h:b<n then Classical.choose (sur b h) else 0,fun b hb=>?_⟩
  have e:(if h:b<n then Classical.choose (sur b h) else 0)=Classical.choose (sur b hb):=dif_pos hb
  show(if h:b<n then Classical.choose (sur b h) else 0)<n/\l.getD (if h:b<n then Classical.choose (sur b h) else 0) 0=b
  rw[e]
  exact Classical.choose_spec (sur b hb)
 obtain⟨pl,hp⟩:=hp
 have ltL:∀ i,i<n->l.getD i 0<n:=fun i hi=>lt _ (f0c (getL i hi))
 refine⟨fun i=>l.getD i 0,pl,⟨ltL,fun b hb=>(hp b hb).1,fun i hi=>?_,fun b hb=>(hp b hb).2,by rw[hl];rfl,n1,n2⟩,getL,fun i h0 hi=>?_⟩
 .obtain ⟨h1,h2⟩:=hp (l.getD i 0) (ltL i hi)
  exact inj _ _ h1 hi h2
 .have lM:M.length+1=n:=by rw[←hn,hl];simp
  have rd:∀ i,0<i->i<n->M[n - 1 - i]?=some (l.getD i 0):=fun i h0 hi=>by
   have:=getL i hi
   obtain⟨q,rfl⟩:∃ q,i=q+1:=⟨i - 1,by omega⟩
   rw[←this,hl,f2i,List.getElem?_reverse (by omega)]
   congr 1
   omega
  rcases hB.at _ _ (rd i h0 hi) with⟨t',p,a1,a2,a3⟩ | e
  .have ht:=(f0e.1 a2).1
   refine⟨n - 1 - t',by omega,?_⟩
   have h:=rd (n - 1 - t') (by omega) (by omega)
   rw[show n - 1 - (n - 1 - t')=t' by omega,a2] at h
   obtain rfl:p=l.getD (n - 1 - t') 0:=by simpa using h
   exact a3
  .refine ⟨0,h0,?_⟩
   show Eg f (l.getD 0 0) _
   rw[show l.getD 0 0=0 by rw[hl];rfl]
   exact e
def PPl (n:Nat) (L pl:Nat->Nat) (P:Nat->List Nat) (v:Nat):List Nat:=if v<n then (P (L v)).map pl else []
theorem PPl.lt {L pl:Nat->Nat} {P:Nat->List Nat} (N:Num f.blocks.length L pl) (T:IntT f P):∀ v p,p∈PPl f.blocks.length L pl P v->v<f.blocks.length/\p<f.blocks.length:=fun v p h=>by
 unfold PPl at h
 by_cases c:v<f.blocks.length
 .rw [if_pos c] at h
  obtain⟨q,hq,rfl⟩:=f2a.1 h
  exact⟨c,N.p q (T.s _ q hq).1⟩
 .rw [if_neg c] at h;exact(f2d h).elim
end
end Go.Proofs.Ytkplfnkgodnmaaa.Ev
