/- Open runs: what operations answer at values that are known in part. No program in sight. -/
import Derived.Test.YtkplfnkgodnmaaaOp
namespace Go.Proofs.Ytkplfnkgodnmaaa.Ev
noncomputable section
open Go Go.RowKit
set_option linter.all false
variable {t va agg ex' okf:Bool} {rows:List (List SV)} {vs:List AV} {sig:List Bool} {js:List Nat} {z xs row:List SV} {g i j o b' lo o' mc' sz' bytes:Nat} {u y:SV}
abbrev vi (n:Int):AV:=.s (.int .i64 n)
abbrev vb (b:Bool):AV:=.s (.bool b)
abbrev si (n:Int):SV:=.int .i64 n
section
variable {st fr:List AV} {h:Hp} {α β:Type}
theorem qm7:ev st fr (.l i)=jbp st i:=rfl
theorem qm8:ev st fr (.g i)=jbp fr i:=rfl
theorem qm9 {v:AV}:ev st fr (.c v)=some v:=rfl
theorem qcd:evs st fr []=some []:=rfl
theorem j6a {o:Od} {l:List Od}:evs st fr (o::l)=ob (ev st fr o) (fun v=>ob (evs st fr l) (fun r=>some (v::r))):=rfl
theorem jz3 {a:α} {l:List α}:jbp (a::l) 0=some a:=rfl
theorem jz4 {a:α} {l:List α} {n:Nat}:jbp (a::l) (n+1)=jbp l n:=rfl
theorem jz5 {a x:α} {l:List α}:jmy (a::l) 0 x=x::l:=rfl
theorem jz6 {a x:α} {l:List α} {n:Nat}:jmy (a::l) (n+1) x=a::jmy l n x:=rfl
theorem jz7 {v:AV}:jbl fr none v=fr:=rfl
theorem jz8 {d:Nat} {v:AV}:jbl fr (some d) v=jmy fr d v:=rfl
theorem jsr:jcf 0=[]:=rfl
theorem jss {n:Nat}:jcf (n+1)=.undef::jcf n:=rfl
theorem qna {a:α} {f:α->Option β}:ob (some a) f=f a:=rfl
theorem qnb {f:α->Option β}:ob none f=none:=rfl
theorem jz9 {b:Bool} {x y:α}:oif b x y=if b=true then x else y:=by cases b<;>rfl
theorem qj9 {e:Option β} {x:SV} {f:SV->Option β}:svc e (.s x) f=f x:=rfl
theorem j0a {e:Option β} {f:SV->Option β}:svc e .undef f=e:=rfl
theorem j6b {k:IntKind} {n:Int} {f:IntKind->Int->Option β}:jx5 (.int k n) f=f k n:=rfl
theorem jw4 {b:Bool} {f:Bool->Option β}:jjx (.bool b) f=f b:=rfl
theorem j6c {k:IntKind} {n:Int} {f:IntKind->Int->Option β}:jg1 (.s (.int k n)) f=f k n:=rfl
theorem jw5 {b:Bool} {f:Bool->Option β}:jg8 (.s (.bool b)) f=f b:=rfl
theorem qka {x:SV} {f:List SV->Option β}:cel (.s x) f=f [x]:=rfl
theorem qce {l:List SV} {f:List SV->Option β}:cel (.agg l) f=f l:=rfl
theorem qgi {a:SV}:jdw false [a]=some (.s a):=rfl
theorem qgj {l:List SV}:jdw true l=some (.agg l):=rfl
theorem qgk {x:SV} {f:List SV->Option β}:jru false (.s x) f=f [x]:=rfl
theorem j6d {l:List SV} {f:List SV->Option β}:jru true (.agg l) f=f l:=rfl
theorem jw6 {l:List α}:ja3 0 l=some []:=rfl
theorem jw7 {a:α} {l:List α} {n:Nat}:ja3 (n+1) (a::l)=ob (ja3 n l) (fun x=>some (a::x)):=rfl
theorem jw8 {l:List α}:jbd 0 l=l:=rfl
theorem jw9 {a:α} {l:List α} {n:Nat}:jbd (n+1) (a::l)=jbd n l:=rfl
theorem j0b {n:Nat}:jbd n ([]:List α)=[]:=by cases n<;>rfl
theorem j6e:ja9 ([]:List α)=0:=rfl
theorem j0c {a:α} {l:List α}:ja9 (a::l)=ja9 l+1:=rfl
theorem j0d {l:List α}:jmm [] l=some l:=rfl
theorem jxa {x a:α} {xs l:List α}:jmm (x::xs) (a::l)=ob (jmm xs l) (fun y=>some (x::y)):=rfl
theorem jqy {xs l:List α}:jat 0 xs l=jmm xs l:=rfl
theorem jqz {a:α} {xs l:List α} {n:Nat}:jat (n+1) xs (a::l)=ob (jat n xs l) (fun y=>some (a::y)):=rfl
theorem j0e {a:Nat}:Nat.beq a a=true:=f1h a
theorem qcf {a b:Nat}:(Nat.beq a b=true)=(a=b):=jev a b
theorem qcg {a b:Nat}:(Nat.ble a b=true)=(a<=b):=jps a b
theorem qgl {x:Od}:pop st fr (.mv x)=ev st fr x:=rfl
theorem j0f {ps:List (Nat×Nat×Od)}:pop st fr (.build z ps)=ob (fill st fr ps z) (fun cs=>some (.agg cs)):=rfl
theorem j6f {cs:List SV}:fill st fr [] cs=some cs:=rfl
theorem j0g {off n:Nat} {o:Od} {ps:List (Nat×Nat×Od)} {cs:List SV}:fill st fr ((off,n,o)::ps) cs=ob (ev st fr o) (fun v=>cel v (fun xs=>oif (Nat.beq (ja9 xs) n) (ob (jat off xs cs) (fill st fr ps)) none)):=rfl
theorem qch {x:Od}:pop st fr (.not x)=ob (ev st fr x) (fun v=>jg8 v (fun b=>some (.s (.bool (!b))))):=by
 show ob (ev st fr x) (fun v=>jg8 v (fun b=>some (AV.s (.bool (jfb b)))))=_
 congr 1;funext v;congr 1;funext b;cases b<;>rfl
theorem qci {x:Od}:pop st fr (.neg x)=ob (ev st fr x) (fun v=>jg1 v (fun k n=>jx2 k (-n))):=rfl
theorem j6g {off n:Nat} {x:Od}:pop st fr (.fval off n agg x)=ob (ev st fr x) (fun v=>AV.casesOn (motive:=fun _=>Option AV) v (fun _=>none) (fun cs=>ob (ja3 n (jbd off cs)) (fun cs=>jdw agg cs)) (fun _=>none) none none):=rfl
theorem j6h {k:IntKind} {x:Od}:pop st fr (.conv k x)=ob (ev st fr x) (fun v=>jg1 v (fun _ n=>jnu k n)):=rfl
theorem j0h {f:FuncId} {cs:List Od}:pop st fr (.mkfun f cs)=ob (evs st fr cs) (fun vs=>ob (j8r vs) (fun ps=>some (.s (.func f ps)))):=rfl
theorem j6i:j8r []=some []:=rfl
theorem j0i {b:Nat} {l:List AV}:j8r (.s (.ptr b o)::l)=ob (j8r l) (fun r=>some ((b,o)::r)):=rfl
theorem jxb:jdx []=[]:=rfl
theorem jst {b:Nat} {l:List (Nat×Nat)}:jdx ((b,o)::l)=.s (.ptr b o)::jdx l:=rfl
theorem j0j {b:Nat} {f:Nat->Nat->Option β} {g:List SV->Option β}:jdv (.s (.ptr b o)) f g=f b o:=rfl
theorem j6j {cs:List SV} {f:Nat->Nat->Option β} {g:List SV->Option β}:jdv (.s (.cp cs)) f g=g cs:=rfl
theorem j6k {b:Nat} {f:Nat->Nat->Option β}:jmz (.s (.ptr b o)) f=f b o:=rfl
def jlz (v:AV):Option AV:=ja4 v (some (.s (.int .i64 0))) (fun _ _ n _ _ _=>some (.s (.int .i64 (Int.ofNat n)))) (fun rows=>some (.s (.int .i64 (Int.ofNat (ja9 rows))))) (some (.s (.int .i64 0)))
theorem j6l:jlz (.s .nilSlice)=some (vi 0):=rfl
theorem jom:jlz (.s (.lst rows))=some (vi rows.length):=by
 show some (AV.s (.int .i64 (Int.ofNat (ja9 rows))))=_
 rw[jas];rfl
theorem jxc {b n mc sz:Nat} {e:Bool}:jlz (.s (.slice b o n mc e sz))=some (vi n):=rfl
def j0k (n:Int):Option AV:=if -9223372036854775808<=n/\n<=9223372036854775807 then some (vi n) else none
theorem qgm {n:Int} (h1:-9223372036854775808<=n) (h2:n<=9223372036854775807):inR .i64 n=true:=by
 cases n with
 | ofNat m=>exact(jps m 9223372036854775807).symm▸(by have:(m:Int)<=9223372036854775807:=h2
                                                      omega)
 | negSucc m=>exact(jps m 9223372036854775807).symm▸(by have:-9223372036854775808<=Int.negSucc m:=h1
                                                        omega)
theorem jsu {n:Int}:jx2 .i64 n=j0k n:=by
 unfold j0k
 show oif (inR .i64 n) (some (AV.s (.int .i64 n))) none=_
 split
 .rename_i h;rw[qgm h.1 h.2];rfl
 .rename_i h
  cases e:inR .i64 n with
  | false=>rfl
  | true =>
   rcases jcq e with⟨_,a,b⟩ | ⟨e,_⟩ | ⟨e,_⟩
   .exact absurd ⟨a,b⟩ h
   .cases e
   .cases e
theorem jup {n:Int} (h1:-9223372036854775808<=n) (h2:n<=9223372036854775807):j0k n=some (vi n):=if_pos ⟨h1,h2⟩
def w64 (n:Int):Int:=IntKind.wrap .i64 n
theorem jac {n:Int} (h1:-9223372036854775808<=n) (h2:n<=9223372036854775807):w64 n=n:=jhm (qgm h1 h2)
theorem jsv {n:Int}:j44 .i64 n=some (vi (w64 n)):=by
 show oif (inR .i64 n) (some (AV.s (.int .i64 n))) (some (AV.s (.int .i64 (IntKind.wrap .i64 n))))=_
 cases e:inR .i64 n with
 | true=>rw[show w64 n=n from jhm e];rfl
 | false=>rfl
variable {a b:Int}
theorem qcj:jcv .add (.int .i64 a) (.int .i64 b)=some (vi (w64 (a+b))):=by
 rw[←jsv];show j44 .i64 (j8q a b)=_;rw[jn0]
theorem qck:jcv .sub (.int .i64 a) (.int .i64 b)=some (vi (w64 (a - b))):=by rw[←jsv];rfl
theorem qcl:jcv .mul (.int .i64 a) (.int .i64 b)=some (vi (w64 (a*b))):=by rw[←jsv];rfl
theorem qcm:jcv .quo (.int .i64 a) (.int .i64 b)=if b=0 then none else j0k (a.tdiv b):=by
 rw[←jsu]
 show oif (ieq b 0) none (jx2 .i64 (a.tdiv b))=_
 rw[jaj,jb8];simp only[decide_eq_true_eq]
theorem qcn:jcv .rem (.int .i64 a) (.int .i64 b)=if b=0 then none else j0k (a.tmod b):=by
 rw[←jsu]
 show oif (ieq b 0) none (jx2 .i64 (a.tmod b))=_
 rw[jaj,jb8];simp only[decide_eq_true_eq]
theorem qgn:jcv .eq (.int .i64 a) (.int .i64 b)=some (vb (decide (a=b))):=by
 show some (AV.s (.bool (ieq a b)))=_;rw[jb8]
theorem qgo:jcv .ne (.int .i64 a) (.int .i64 b)=some (vb (decide (a≠b))):=by
 show some (AV.s (.bool (jfb (ieq a b))))=_;rw[jb8,jdy];congr 3;by_cases h:a=b<;>simp[h]
theorem qgp:jcv .lt (.int .i64 a) (.int .i64 b)=some (vb (decide (a<b))):=by
 show some (AV.s (.bool (jfb (ile b a))))=_;rw[jco,jdy];congr 3;by_cases h:a<b<;>simp[h]
 omega
theorem qgq:jcv .le (.int .i64 a) (.int .i64 b)=some (vb (decide (a<=b))):=by
 show some (AV.s (.bool (ile a b)))=_;rw[jco]
theorem qgr:jcv .gt (.int .i64 a) (.int .i64 b)=some (vb (decide (b<a))):=by
 show some (AV.s (.bool (jfb (ile a b))))=_;rw[jco,jdy];congr 3;by_cases h:b<a<;>simp[h]
 omega
theorem qgs:jcv .ge (.int .i64 a) (.int .i64 b)=some (vb (decide (b<=a))):=by
 show some (AV.s (.bool (ile b a)))=_;rw[jco]
theorem qco {n:Nat} {k:IntKind} (hn:n<=63):jcv .shr (.int .i64 a) (.int k (n:Int))=some (vi (a / 2 ^ n)):=by
 have hs:j45 .i64 n=true:=by
  have hI:jko .i64=true:=rfl
  unfold j45
  simp[jaj,jps,hn,hI]
 have e:jcv .shr (.int .i64 a) (.int k (n:Int))=jpu .shr .i64 a (n:Int):=by
  show oif (Nat.beq (ikn .i64) (ikn k)) (jpu .shr .i64 a n) (oif true (jpu .shr .i64 a n) none)=_
  cases Nat.beq (ikn .i64) (ikn k)<;>rfl
 rw[e]
 cases a with
 | ofNat m =>
  show oif (j45 .i64 n) (some (AV.s (.int .i64 (Int.ofNat (Nat.div m (Nat.pow 2 n)))))) none=_
  rw[hs]
  have:Int.ofNat (Nat.div m (Nat.pow 2 n))=Int.ofNat m / 2 ^ n:=by
   show((m / 2 ^ n:Nat):Int)=(m:Int) / 2 ^ n
   rw[Int.natCast_ediv,f3a];rfl
  rw[this];rfl
 | negSucc m =>
  show oif (j45 .i64 n) (some (AV.s (.int .i64 (Int.negSucc (Nat.div m (Nat.pow 2 n)))))) none=_
  rw[hs]
  have:Int.negSucc (Nat.div m (Nat.pow 2 n))=Int.negSucc m / 2 ^ n:=by
   obtain⟨q,hq⟩:∃ q,2 ^ n=q+1:=⟨2 ^ n - 1,by have:=Nat.two_pow_pos n;omega⟩
   have h2:(2:Int) ^ n=((q+1:Nat):Int):=by rw[←hq,f3a];rfl
   have h3:Nat.pow 2 n=q+1:=hq
   rw[h2,h3];rfl
  rw[this];rfl
end
class Ok (h:Hp):Prop where
 hid:h.hid=[]
 lo:h.lo=0
 pos:1<=h.next
theorem jb5 {a b:Nat} (h:a<=b):Nat.ble a b=true:=by rw[jps];exact h
theorem ji8:Ok h0:=⟨rfl,rfl,f0d 1⟩
section
variable {h:Hp} {F:Fns} {st fr:List AV} {Q:Ex->St->Prop} {β:Type}
theorem jb4 {x:AB} (k:Ok h):Ok (h.push x):=⟨k.hid,k.lo,f16 k.pos⟩
theorem jdf {b:Nat} {x:Option AB} (k:Ok h):Ok (h.put b x):=⟨by rw[Hp.hid_put];exact k.hid,by rw[Hp.lo_put];exact k.lo,by rw[Hp.next_put];exact k.pos⟩
instance iPush {x:AB} [k:Ok h]:Ok (h.push x):=jb4 k
instance iPut {b:Nat} {x:Option AB} [k:Ok h]:Ok (h.put b x):=jdf k
theorem jaq {x:AB} {n:Nat} (k:Ok h):(h.push x).get n=if n=h.next then some x else h.get n:=by
 rw[Hp.get_eq,Hp.get_eq,Hp.hid_push,k.hid]
 have e:jai [] n=false:=rfl
 rw[e]
 show(h.tr.put (Nat.succ h.next) h.next (some x)).get n=_
 split
 .rename_i hn;subst hn;exact ja5 _ _ _ _ k.pos (jji _)
 .rename_i hn;exact jbe _ _ _ _ n k.pos (jji _) hn
theorem jba {b n:Nat} {x:Option AB} (k:Ok h) (hb:1<=b):(h.put b x).get n=if n=b then x else h.get n:=by
 rw[Hp.get_eq,Hp.get_eq,Hp.hid_put,k.hid,Hp.tr_put]
 have e:jai [] n=false:=rfl
 rw[e]
 show(h.tr.put (Nat.succ b) b x).get n=_
 split
 .rename_i hn;subst hn;exact ja5 _ _ _ _ hb (jji _)
 .rename_i hn;exact jbe _ _ _ _ n hb (jji _) hn
def Hp.hide (h:Hp) (lo:Nat) (hid:List (Nat×Nat)):Hp:=.mk h.next h.tr lo hid
theorem jxd {n:Nat}:jai [] n=false:=by cases n<;>rfl
theorem jsw {a b n:Nat} {l:List (Nat×Nat)}:jai ((a,b)::l) n=if a<=n/\n<b then true else jai l n:=by
 show oif (Nat.ble a n) (oif (Nat.ble (n+1) b) true (jai l n)) (jai l n)=_
 simp only[jaj,jps]
 by_cases h1:a<=n
 .by_cases h2:n+1<=b
  .rw [if_pos h1,if_pos h2,if_pos ⟨h1,h2⟩]
  .rw [if_pos h1,if_neg h2,if_neg (fun h=>h2 h.2)]
 .rw [if_neg h1,if_neg (fun h=>h1 h.1)]
theorem j6m {n:Nat} {hid:List (Nat×Nat)} (k:Ok h):(h.hide lo hid).get n=if jai hid n=true then none else h.get n:=by
 rw[Hp.get_eq,Hp.get_eq,k.hid];rfl
theorem jmr {cs:List SV} {ty:TypeId} {f:Nat->Hp->Option β} (k:Ok h):nw h cs ty f=f h.next (h.push (.arr cs ty)):=by
 cases h with
 | mk n t lo hid =>
  obtain rfl:hid=[]:=k.hid
  rfl
def rdB (x:Option AB) (off n:Nat):Option (List SV):=ob x (fun x=>AB.casesOn (motive:=fun _=>Option (List SV)) x (fun cs _=>ja3 n (jbd off cs)) (fun _ _=>none))
theorem jdm {cs:List SV} {ty:TypeId} {off n:Nat}:rdB (some (.arr cs ty)) off n=ja3 n (jbd off cs):=rfl
def wrB (h:Hp) (b:Nat) (x:Option AB) (off:Nat) (xs:List SV):Option Hp:=ob x (fun x=>AB.casesOn (motive:=fun _=>Option Hp) x (fun cs ty=>ob (jat off xs cs) (fun cs'=>some (h.put b (some (.arr cs' ty))))) (fun _ _=>none))
theorem j6n {b off:Nat} (k:Ok h):wr h b off xs=wrB h b (h.get b) off xs:=by
 show oif (Nat.ble h.lo b) _ none=_
 rw[k.lo];rfl
theorem j0l {b:Nat} {cs:List SV} {ty:TypeId} {off:Nat}:wrB h b (some (.arr cs ty)) off xs=ob (jat off xs cs) (fun cs'=>some (h.put b (some (.arr cs' ty)))):=rfl
def jj2 (h:Hp) (n:Nat) (agg:Bool) (v:AV):Option AV:=jdv v (fun b off=>ob (rd h b off n) (fun cs=>jdw agg cs)) (fun cs=>ob (ja3 n cs) (fun cs=>jdw agg cs))
theorem qcp {α γ:Type} {x:Option α} {f:α->Option β} {g:β->Option γ}:ob (ob x f) g=ob x (fun a=>ob (f a) g):=by cases x<;>rfl
theorem juq {n:Nat} {x:Od}:jcp st fr h (.load n agg x)=ob (ev st fr x) (fun v=>ob (jj2 h n agg v) (fun v=>ok v h)):=by
 show ob (ev st fr x) (fun v=>jdv v (fun b off=>ob (rd h b off n) (fun cs=>ob (jdw agg cs) (fun v=>ok v h))) (fun cs=>ob (ja3 n cs) (fun cs=>ob (jdw agg cs) (fun v=>ok v h))))=_
 congr 1
 funext v
 cases v with
 | s v=>cases v<;>first | rfl | (show ob _ _=ob (ob _ _) _;rw[qcp])
 | _=>rfl
def j0m (h:Hp) (n:Nat) (p v:AV):R:=jmz p (fun b off=>cel v (fun cs=>oif (Nat.beq (ja9 cs) n) (ob (wr h b off cs) (fun h=>ok .undef h)) none))
theorem j6o {b:Nat} {v:SV} (k:Ok h):j0m h 1 (.s (.ptr b o)) (.s v)=ob (wrB h b (h.get b) o [v]) (fun h=>ok .undef h):=by
 show ob (wr h b o [v]) _=_
 rw[j6n k]
theorem jxe {n b:Nat} {cs:List SV} (k:Ok h) (hn:cs.length=n):j0m h n (.s (.ptr b o)) (.agg cs)=ob (wrB h b (h.get b) o cs) (fun h=>ok .undef h):=by
 show oif (Nat.beq (ja9 cs) n) (ob (wr h b o cs) _) none=_
 rw[j6n k,jas,hn,f1h];rfl
theorem qcq {e:TypeId} (k:Ok h):jcp st fr h (.new e z)=some (.s (.ptr h.next 0),h.push (.arr z e)):=by
 show nw h z e (fun n h=>ok (.s (.ptr n 0)) h)=_
 rw[jmr k];rfl
theorem qcr {e:TypeId} {x:Od} (k:Ok h):jcp st fr h (.box e x)=ob (ev st fr x) (fun v=>cel v (fun cs=>some (.s (.ptr h.next 0),h.push (.arr cs e)))):=by
 show ob (ev st fr x) (fun v=>cel v (fun cs=>nw h cs e (fun n h=>ok (.s (.ptr n 0)) h)))=_
 congr 1;funext v;congr 1;funext cs;rw[jmr k];rfl
theorem jxf {e:TypeId} {size:Nat} {len:Nat} {ps:List (Nat×Nat×Od)} (k:Ok h):jcp st fr h (.bslice e size z len ps)=ob (fill st fr ps z) (fun cs=>some (.s (.slice h.next 0 len len true size),h.push (.arr cs e))):=by
 show ob (fill st fr ps z) (fun cs=>nw h cs e (fun n h=>ok (.s (.slice n 0 len len true size)) h))=_
 congr 1;funext cs;rw[jmr k];rfl
def qgt (h:Hp) (e:TypeId) (size bytes:Nat) (z:List SV) (l c:AV):R:=j8u l (fun m=>j8u c (fun k=>oif (Nat.ble m k) (oif (Nat.ble (Nat.mul bytes k) 1000000000) (oif (Nat.ble k 1000000000) (nw h (rep z k) e (fun b h=>ok (.s (.slice b 0 m k true size)) h)) none) none) none))
theorem jhf {e:TypeId} {size:Nat} {m:Nat} (k:Ok h) (h1:bytes*m<=1000000000) (h2:m<=1000000000):qgt h e size bytes z (vi m) (vi m)=some (.s (.slice h.next 0 m m true size),h.push (.arr (rep z m) e)):=by
 show oif (Nat.ble m m) (oif (Nat.ble (Nat.mul bytes m) 1000000000) (oif (Nat.ble m 1000000000) (nw h (rep z m) e _) none) none) none=_
 rw[jmr k,jb5 (f0d m),jb5 h2,show Nat.ble (Nat.mul bytes m) 1000000000=true from jb5 h1];rfl
def jj3 (size:Nat) (v w:AV):Option AV:=ja4 v none (fun b off len _ _ _=>jg9 w len (fun m=>some (.s (.ptr b (Nat.add off (Nat.mul m size))))))
 (fun rows=>jg9 w (ja9 rows) (fun m=>ob (jbp rows m) (fun row=>oif (Nat.beq (ja9 row) size) (some (.s (.cp row))) none))) none
theorem jge {m n:Nat} {f:Nat->Option β} (hm:m<n):jg9 (vi (m:Int)) n f=f m:=by
 show oif (Nat.ble (Nat.succ m) n) (f m) none=_
 rw[jb5 (show Nat.succ m<=n from hm)];rfl
theorem jcc {size b off len mc sz m:Nat} {ex:Bool} (hm:m<len):jj3 size (.s (.slice b off len mc ex sz)) (vi (m:Int))=some (.s (.ptr b (off+m*size))):=jge (f:=fun m=>some (AV.s (.ptr b (Nat.add off (Nat.mul m size))))) hm
theorem jsx {size b off len mc sz:Nat} {ex:Bool} (hm:0<len):jj3 size (.s (.slice b off len mc ex sz)) (vi 0)=some (.s (.ptr b off)):=by
 have:=jge (f:=fun m=>some (AV.s (.ptr b (Nat.add off (Nat.mul m size))))) hm
 refine this.trans ?_
 show some (AV.s (.ptr b (off+0*size)))=_
 rw[f1s,f12]
theorem jur {size m:Nat} (hr:rows[m]?=some row) (hl:row.length=size):jj3 size (.s (.lst rows)) (vi (m:Int))=some (.s (.cp row)):=by
 have hm:m<rows.length:=by
  rcases f0j m rows.length with h | h
  .exact h
  .rw [f0t h] at hr;cases hr
 have:=jge (f:=fun m=>ob (jbp rows m) (fun row=>oif (Nat.beq (ja9 row) size) (some (AV.s (.cp row))) none)) (show m<ja9 rows by rw[jas];exact hm)
 refine this.trans ?_
 rw[jbr,hr]
 show oif (Nat.beq (ja9 row) size) _ none=_
 rw[jas,hl,f1h];rfl
def j4z (n size:Nat) (v w:AV):Option AV:=jdv v (fun b off=>jg9 w n (fun m=>some (.s (.ptr b (Nat.add off (Nat.mul m size)))))) (fun cs=>jg9 w n (fun m=>some (.s (.cp (jbd (Nat.mul m size) cs)))))
theorem jj9 {n size b off m:Nat} (hm:m<n):j4z n size (.s (.ptr b off)) (vi (m:Int))=some (.s (.ptr b (off+m*size))):=jge (f:=fun m=>some (AV.s (.ptr b (Nat.add off (Nat.mul m size))))) hm
theorem jsy {n size m:Nat} {cs:List SV} (hm:m<n):j4z n size (.s (.cp cs)) (vi (m:Int))=some (.s (.cp (jbd (m*size) cs))):=jge (f:=fun m=>some (AV.s (.cp (jbd (Nat.mul m size) cs)))) hm
def qkb (h:Hp) (e:TypeId) (size bytes b n m:Nat) (x:Option AB) (new:List SV):R :=
 jft bytes (Nat.add n m) (ob x (fun x=>AB.casesOn (motive:=fun _=>R) x (fun cs ty =>
  ob (ja3 (Nat.mul n size) (jbd 0 cs)) (fun old=>(oif (Nat.ble h.lo b) (oif (Nat.beq ty e) (nw (h.put b none) (jeq old new) e (fun k h=>ok (.s (.slice k 0 (Nat.add n m) (Nat.add n m) false size)) h)) none) none))) (fun _ _=>none)))
def jjv (h:Hp) (e:TypeId) (size bytes:Nat) (v w:AV):R:=ja4 w (jx3 v (ok v h)) (fun b' off' m _ _ _=>ob (rd h b' off' (Nat.mul m size)) (fun new=>jrz h e size bytes m v new))
 (fun rows=>ob (jim size rows) (fun new=>jrz h e size bytes (ja9 rows) v new)) (jx3 v (ok v h))
theorem jda {e:TypeId} {size m:Nat}:jjv h e size bytes (.s .nilSlice) (.s (.slice b' o' m mc' ex' sz'))=ob (rdB (h.get b') o' (m*size)) (fun new=>Nat.casesOn (motive:=fun _=>R) m (some (.s .nilSlice,h)) (fun _=>jft bytes m (nw h new e (fun k h=>ok (.s (.slice k 0 m m false size)) h)))):=rfl
theorem jq0 {n:Nat} {x:R} (h1:n*bytes<=140737488355328) (h2:n<=140737488355328):jft bytes n x=x:=by
 show oif (Nat.ble (Nat.mul n bytes) 140737488355328) (oif (Nat.ble n 140737488355328) x none) none=_
 rw[show Nat.ble (Nat.mul n bytes) 140737488355328=true from jb5 h1,jb5 h2];rfl
theorem jgw {n:Nat} {x:R} (h1:n*bytes<=1000000000) (h2:n<=1000000000):jft bytes n x=x:=jq0 (by omega) (by omega)
theorem jfp {e:TypeId} {size b n m:Nat} (hm:1<=m):jjv h e size bytes (.s (.slice b 0 n n false size)) (.s (.slice b' o' m mc' ex' sz'))=ob (rdB (h.get b') o' (m*size)) (fun new=>qkb h e size bytes b n m (h.get b) new):=by
 show ob (rdB (h.get b') o' (m*size)) (fun new=>oif (Nat.beq size size) (oif (Nat.ble (Nat.add n m) n) _ (jft bytes (Nat.add n m) (jkq h e size b 0 n m false new))) none)=_
 congr 1
 funext new
 have e1:Nat.ble (Nat.add n m) n=false:=by
  cases e:Nat.ble (Nat.add n m) n with
  | false=>rfl
  | true=>rw[jps] at e;have:n+m<=n:=e;omega
 rw[f1h]
 show oif (Nat.ble (Nat.add n m) n) _ _=_
 rw[e1]
 rfl
theorem j0n {e:TypeId} {size b n m:Nat} {cs new:List SV} (k:Ok h) (hc:cs.length=n*size) (h1:(n+m)*bytes<=1000000000) (h2:n+m<=1000000000) :
 qkb h e size bytes b n m (some (.arr cs e)) new=some (.s (.slice h.next 0 (n+m) (n+m) false size),(h.put b none).push (.arr (cs++new) e)):=by
 show jft bytes (n+m) (ob (ja3 (n*size) cs) (fun old=>oif (Nat.ble h.lo b) (oif (Nat.beq e e) (nw (h.put b none) (jeq old new) e _) none) none))=_
 rw[jgw h1 h2,(jam _).2 ⟨f2j hc.symm,rfl⟩,←hc,f22]
 show oif (Nat.ble h.lo b) (oif (Nat.beq e e) (nw (h.put b none) (jeq cs new) e _) none) none=_
 rw[k.lo,f1h,jmr (jdf k),jb2,Hp.next_put]
 rfl
def qnc (v:AV):Option (Bool×List SV):=AV.casesOn (motive:=fun _=>Option (Bool×List SV)) v (fun s=>some (false,[s])) (fun l=>some (true,l)) (fun _=>none) none none
theorem jxg:jeu fr h []=some []:=rfl
theorem jhg {r:IR} {l:List IR}:jeu fr h (r::l)=ob (jjy fr h r) (fun v=>ob (jeu fr h l) (fun x=>some (v::x))):=rfl
theorem jxh:jbq (.mk fr h) []=some (.tup [],h):=rfl
theorem jxi {r:IR}:jbq (.mk fr h) [r]=ob (jjy fr h r) (fun p=>ob (jdw p.1 p.2) (fun v=>some (v,h))):=by
 show ob (ob (jjy fr h r) (fun v=>ob (some []) (fun x=>some (v::x)))) (fun vs=>List.casesOn (motive:=fun _=>R) vs (ok (.tup []) h) (fun p r=>List.casesOn (motive:=fun _=>R) r (ob (jdw p.1 p.2) (fun v=>ok v h)) (fun _ _=>ok (.tup vs) h)))=_
 cases jjy fr h r<;>rfl
theorem jxj {r r':IR} {l:List IR}:jbq (.mk fr h) (r::r'::l)=ob (jeu fr h (r::r'::l)) (fun vs=>some (.tup vs,h)):=by
 show ob (jeu fr h (r::r'::l)) (fun vs=>List.casesOn (motive:=fun _=>R) vs (ok (.tup []) h) (fun p r=>List.casesOn (motive:=fun _=>R) r (ob (jdw p.1 p.2) (fun v=>ok v h)) (fun _ _=>ok (.tup vs) h)))=_
 rw[jhg,jhg]
 cases jjy fr h r with
 | none=>rfl
 | some a=>cases jjy fr h r' with
  | none=>rfl
  | some b=>cases jeu fr h l<;>rfl
theorem qkc {v:AV}:ok v h=some (v,h):=rfl
theorem qcs {es:List Ent} {hid:List (Nat×Nat)}:sel es [] hid=some hid:=rfl
theorem j6p {es:List Ent} {hid:List (Nat×Nat)}:sel es (j::js) hid=ob (jbp es j) (fun e=>ob (sel es js hid) (fun l=>Ent.casesOn (motive:=fun _=>Option (List (Nat×Nat))) e (fun iv _=>some (iv++l)))):=by
 show ob (jbp es j) (fun e=>ob (sel es js hid) (fun l=>Ent.casesOn (motive:=fun _=>Option (List (Nat×Nat))) e (fun iv _=>some (jeq iv l))))=_
 simp only[jb2]
def fpV:AV->List Nat
 | .s (.ptr b _)=>[b]
 | _=>[]
theorem qct {b:Nat}:fpV (.s (.ptr b o))=[b]:=rfl
theorem qgu {cs:List SV}:fpV (.s (.cp cs))=[]:=rfl
theorem jq1 {es:List Ent} {dst:Option Nat} {n:Nat} {x:Od} {l:List (IOper×Option (List Nat))}:WD F ((.mk dst (.a (.load n agg x)) none,some js)::l) st es fr h Q=obP (sel es js h.hid) (fun hid'=>obP (ev st fr x) (fun p=>obP (jj2 (h.hide h.next hid') n agg p) (fun v=>WD F l (v::st) (.mk [] (some (fpV p))::es) (jbl fr dst v) h Q))):=by
 cases h with
 | mk k t lo hid =>
 rw[jsq (x:=ob (sel es js hid) (fun hid'=>ob (ev st fr x) (fun p=>ob (jj2 (.mk k t k hid') n agg p) (fun v=>some (DR.mk v (.mk k t lo hid) (.mk [] (some (fpV p)))))))) (fun cl=>?_)]
 .refine propext ⟨fun⟨p,h1,h2⟩=>?_,fun⟨hid',h0,q,h1,v,h2,h3⟩=>⟨.mk v (.mk k t lo hid) (.mk [] (some (fpV q))),jaa.2 ⟨hid',h0,jaa.2 ⟨q,h1,jaa.2 ⟨v,h2,rfl⟩⟩⟩,h3⟩⟩
  obtain⟨hid',h3,h4⟩:=jaa.1 h1
  obtain⟨q,h5,h6⟩:=jaa.1 h4
  obtain⟨v,h7,h8⟩:=jaa.1 h6
  cases h8
  exact⟨hid',h3,q,h5,v,h7,h2⟩
 .show jjg cl st fr es (.mk k t lo hid) (.a (.load n agg x)) js=_
  show ob (sel es js hid) (fun hid'=>Cls.casesOn (motive:=fun _=>Option DR) (jnx (ob (ev st fr x) (fun v=>jdv v (fun b _=>some (Cls.load b)) (fun _=>some .quiet))) (fun c=>c))
   (jfv cl st fr k t lo k hid hid' (.a (.load n agg x)) (fun n'=>.mk [(k,n')] (some [])))
   (fun x'=>jfv cl st fr k t lo k hid hid' (.a (.load n agg x)) (fun _=>.mk [] (some [x'])))
   (fun b=>oif (jet es js b) (oif (Nat.ble lo b) (ob (Hp.get (.mk k t lo hid') b) (fun _=>jfv cl st fr k t lo lo hid hid' (.a (.load n agg x)) (fun n'=>.mk [(b,Nat.succ b),(k,n')] none))) none) none)
   (jfv cl st fr k t lo k hid hid' (.a (.load n agg x)) (fun _=>.mk [] (some [])))
   (jfv cl st fr k t lo k hid hid' (.a (.load n agg x)) (fun n'=>.mk [(k,n')] none)))=_
  congr 1
  funext hid'
  have key:∀ e:Nat->Ent,jfv cl st fr k t lo k hid hid' (.a (.load n agg x)) e=ob (ev st fr x) (fun p=>ob (jj2 (.mk k t k hid') n agg p) (fun v=>some (DR.mk v (.mk k t lo hid) (e k)))):=fun e=>by
   show ob (aop cl st fr (.mk k t k hid') (.load n agg x)) _=_
   rw[jfh (show AO.calls (.load n agg x)=false from rfl),juq]
   cases ev st fr x with
   | none=>rfl
   | some p =>
    show ob (ob (jj2 (.mk k t k hid') n agg p) _) _=ob (jj2 (.mk k t k hid') n agg p) _
    cases jj2 (.mk k t k hid') n agg p<;>rfl
  have k1:=key (fun n'=>.mk [(k,n')] none)
  have k3:=key (fun _=>.mk [] (some []))
  have k2:=fun b=>key (fun _=>.mk [] (some [b]))
  cases hx:ev st fr x with
  | none =>
   rw[hx] at k1
   exact k1
  | some p =>
   rw[hx] at k1 k3
   simp only[hx] at k2
   cases p with
   | s p =>
    cases p with
    | ptr b o=>exact k2 b
    | cp cs=>exact k3
    | _=>exact k1
   | _=>exact k1
theorem jms {es:List Ent} {dst:Option Nat} {e:TypeId} {size:Nat} {len:Nat} {ps:List (Nat×Nat×Od)} {l:List (IOper×Option (List Nat))}:WD F ((.mk dst (.a (.bslice e size z len ps)) none,some js)::l) st es fr h Q=obP (sel es js h.hid) (fun hid'=>obP (fill st fr ps z) (fun cs=>jai hid' h.next=false/\WD F l (.s (.slice h.next 0 len len true size)::st) (.mk [(h.next,h.next+1)] (some [])::es) (jbl fr dst (.s (.slice h.next 0 len len true size))) (h.push (.arr cs e)) Q)):=by
 cases h with
 | mk k t lo hid =>
 rw[jsq (x:=ob (sel es js hid) (fun hid'=>ob (fill st fr ps z) (fun cs=>oif (jai hid' k) none (some (DR.mk (.s (.slice k 0 len len true size)) ((Hp.mk k t lo hid).push (.arr cs e)) (.mk [(k,k+1)] (some []))))))) (fun cl=>?_)]
 .refine propext ⟨fun⟨p,h1,h2⟩=>?_,fun⟨hid',h0,cs,h1,h2,h3⟩=>⟨DR.mk (.s (.slice k 0 len len true size)) ((Hp.mk k t lo hid).push (.arr cs e)) (.mk [(k,k+1)] (some [])),jaa.2 ⟨hid',h0,jaa.2 ⟨cs,h1,?_⟩⟩,h3⟩⟩
  .obtain ⟨hid',h3,h4⟩:=jaa.1 h1
   obtain⟨cs,h5,h6⟩:=jaa.1 h4
   rw[jaj] at h6
   split at h6
   .cases h6
   .rename_i h7
    cases h6
    exact⟨hid',h3,cs,h5,Bool.eq_false_iff.2 h7,h2⟩
  .have h2':jai hid' k=false:=h2
   rw[h2'];rfl
 .show jjg cl st fr es (.mk k t lo hid) (.a (.bslice e size z len ps)) js=_
  show ob (sel es js hid) (fun hid'=>ob (ob (fill st fr ps z) (fun cs=>oif (jai hid' k) none (ok (.s (.slice k 0 len len true size)) (Hp.mk (Nat.succ k) (t.put (Nat.succ k) k (some (.arr cs e))) k hid')))) (fun p=>Hp.casesOn (motive:=fun _=>Option DR) p.2 (fun n' t' _ _=>some (.mk p.1 (.mk n' t' lo hid) (.mk [(k,n')] (some []))))))=_
  congr 1
  funext hid'
  cases fill st fr ps z with
  | none=>rfl
  | some cs =>
   show ob (oif (jai hid' k) none _) _=oif (jai hid' k) none _
   cases jai hid' k<;>rfl
end
section
variable {F:Fns} {s:St} {st fr:List AV} {h h':Hp} {Q:Ex->St->Prop} {l:List IOper} {dst:Option Nat} {v w:AV} {m:List (IOper×Option (List Nat))} {es:List Ent}
def zpO (F:Fns) (x:Option AV) (dst:Option Nat) (l:List IOper) (st fr:List AV) (h:Hp) (Q:Ex->St->Prop):Prop:=obP x (fun v=>WO F l (v::st) (jbl fr dst v) h Q)
theorem j6q:zpO F (some v) dst l st fr h Q=WO F l (v::st) (jbl fr dst v) h Q:=jbw
def zmO (F:Fns) (x:R) (dst:Option Nat) (l:List IOper) (st fr:List AV) (Q:Ex->St->Prop):Prop:=obP x (fun p=>WO F l (p.1::st) (jbl fr dst p.1) p.2 Q)
theorem j6r:zmO F (some (v,h)) dst l st fr Q=WO F l (v::st) (jbl fr dst v) h Q:=jbw
def qcu (F:Fns) (dst:Option Nat) (l:List IOper) (st fr:List AV) (Q:Ex->St->Prop) (v:AV) (h:Hp):Prop:=WO F l (v::st) (jbl fr dst v) h Q
theorem j6s:qcu F dst l st fr Q v h=WO F l (v::st) (jbl fr dst v) h Q:=rfl
def zkO (F:Fns) (x:Option (List AV)) (f:FuncId) (dst:Option Nat) (l:List IOper) (st fr:List AV) (h:Hp) (Q:Ex->St->Prop):Prop:=obP x (fun vs=>WC F f vs h (qcu F dst l st fr Q))
theorem j6t {f:FuncId}:zkO F (some vs) f dst l st fr h Q=WC F f vs h (qcu F dst l st fr Q):=jbw
def zgO (F:Fns) (x:Option AV) (t:Bool) (dst:Option Nat) (op:IOp) (l:List IOper) (st fr:List AV) (h:Hp) (Q:Ex->St->Prop):Prop:=gP x t (WO F (.mk dst op none::l) st fr h Q) (WO F l (.undef::st) (jbl fr dst .undef) h Q)
theorem j6u {b:Bool} {op:IOp}:zgO F (some (.s (.bool b))) t dst op l st fr h Q=if b=t then WO F (.mk dst op none::l) st fr h Q else WO F l (.undef::st) (jbl fr dst .undef) h Q:=jz0
theorem j0o {op:IOp}:zgO F (some .undef) t dst op l st fr h Q=WO F l (.undef::st) (jbl fr dst .undef) h Q:=jun
def zcO (F:Fns) (x:Option AV) (a b:IC) (fr:List AV) (h:Hp) (Q:Ex->St->Prop):Prop:=qj7 x (W F a (.mk fr h) Q) (W F b (.mk fr h) Q)
theorem j6v {b:Bool} {x y:IC}:zcO F (some (.s (.bool b))) x y fr h Q=if b=true then W F x (.mk fr h) Q else W F y (.mk fr h) Q:=jzz
theorem qcv {c:Od} {x y:IC}:W F (.cond c x y) (.mk fr h) Q=zcO F (ev [] fr c) x y fr h Q:=qgd
theorem qcw {o:PO}:WO F (.mk dst (.p o) none::l) st fr h Q=zpO F (pop st fr o) dst l st fr h Q:=qb9
theorem qcx {f:FuncId} {as:List Od}:WO F (.mk dst (.a (.call f as)) none::l) st fr h Q=zkO F (evs st fr as) f dst l st fr h Q:=qca
theorem j6w {op:IOp}:WO F (.mk dst op (some (i,t))::l) st fr h Q=zgO F (jbp st i) t dst op l st fr h Q:=j54
theorem jgx {x:Od} {as:List Od} {f:FuncId} {caps:List (Nat×Nat)} (hx:ev st fr x=some (.s (.func f caps))):WO F (.mk dst (.a (.callv x as)) none::l) st fr h Q=zkO F (ob (evs st fr as) (fun vs=>some (vs++jdx caps))) f dst l st fr h Q:=by
 rw[j53]
 refine propext ⟨fun⟨g,cs,h1,vs,h2,h3⟩=>?_,fun⟨vs,h1,h2⟩=>?_⟩
 .rw [hx] at h1;cases h1
  exact⟨_,jaa.2 ⟨vs,h2,rfl⟩,h3⟩
 .obtain ⟨us,h3,h4⟩:=jaa.1 h1
  cases h4
  exact⟨f,caps,hx,us,h3,h2⟩
def zpD (F:Fns) (x:Option AV) (e:Ent) (dst:Option Nat) (m:List (IOper×Option (List Nat))) (st:List AV) (es:List Ent) (fr:List AV) (h:Hp) (Q:Ex->St->Prop):Prop:=obP x (fun v=>WD F m (v::st) (e::es) (jbl fr dst v) h Q)
theorem j6x {e:Ent}:zpD F (some v) e dst m st es fr h Q=WD F m (v::st) (e::es) (jbl fr dst v) h Q:=jbw
def zmD (F:Fns) (x:R) (dst:Option Nat) (m:List (IOper×Option (List Nat))) (st:List AV) (es:List Ent) (fr:List AV) (Q:Ex->St->Prop):Prop:=obP x (fun p=>WD F m (p.1::st) (.mk [] (some [])::es) (jbl fr dst p.1) p.2 Q)
theorem j6y:zmD F (some (v,h)) dst m st es fr Q=WD F m (v::st) (.mk [] (some [])::es) (jbl fr dst v) h Q:=jbw
def qcy (F:Fns) (dst:Option Nat) (m:List (IOper×Option (List Nat))) (st:List AV) (es:List Ent) (fr:List AV) (Q:Ex->St->Prop) (v:AV) (h:Hp):Prop:=WD F m (v::st) (.mk [] (some [])::es) (jbl fr dst v) h Q
theorem j6z:qcy F dst m st es fr Q v h=WD F m (v::st) (.mk [] (some [])::es) (jbl fr dst v) h Q:=rfl
def zkD (F:Fns) (x:Option (List AV)) (f:FuncId) (dst:Option Nat) (m:List (IOper×Option (List Nat))) (st:List AV) (es:List Ent) (fr:List AV) (h:Hp) (Q:Ex->St->Prop):Prop:=obP x (fun vs=>WC F f vs h (qcy F dst m st es fr Q))
theorem j60 {f:FuncId}:zkD F (some vs) f dst m st es fr h Q=WC F f vs h (qcy F dst m st es fr Q):=jbw
def zgD (F:Fns) (x:Option AV) (t:Bool) (dst:Option Nat) (op:IOp) (o:Option (List Nat)) (m:List (IOper×Option (List Nat))) (st:List AV) (es:List Ent) (fr:List AV) (h:Hp) (Q:Ex->St->Prop):Prop:=gP x t (WD F ((.mk dst op none,o)::m) st es fr h Q) (WD F m (.undef::st) (.mk [] (some [])::es) (jbl fr dst .undef) h Q)
theorem j61 {b:Bool} {op:IOp} {o:Option (List Nat)}:zgD F (some (.s (.bool b))) t dst op o m st es fr h Q=if b=t then WD F ((.mk dst op none,o)::m) st es fr h Q else WD F m (.undef::st) (.mk [] (some [])::es) (jbl fr dst .undef) h Q:=jz0
theorem j0p {op:IOp} {o:Option (List Nat)}:zgD F (some .undef) t dst op o m st es fr h Q=WD F m (.undef::st) (.mk [] (some [])::es) (jbl fr dst .undef) h Q:=jun
theorem qcz {o:PO}:WD F ((.mk dst (.p o) none,none)::m) st es fr h Q=zpD F (pop st fr o) (.mk [] (some [])) dst m st es fr h Q:=qcb
theorem qc0 {f:FuncId} {as:List Od}:WD F ((.mk dst (.a (.call f as)) none,none)::m) st es fr h Q=zkD F (evs st fr as) f dst m st es fr h Q:=qcc
theorem j62 {op:IOp} {o:Option (List Nat)}:WD F ((.mk dst op (some (i,t)),o)::m) st es fr h Q=zgD F (jbp st i) t dst op o m st es fr h Q:=j55
def qmh (F:Fns) (x:Option (List (Nat×Nat))) (o:Option AV) (dst:Option Nat) (m:List (IOper×Option (List Nat))) (st:List AV) (es:List Ent) (fr:List AV) (h:Hp) (Q:Ex->St->Prop):Prop:=obP x (fun _=>zpD F o (.mk [(h.next,h.next)] (some [])) dst m st es fr h Q)
theorem j0q {x:List (Nat×Nat)} {o:Option AV}:qmh F (some x) o dst m st es fr h Q=zpD F o (.mk [(h.next,h.next)] (some [])) dst m st es fr h Q:=jbw
theorem jq2 {o:PO}:WD F ((.mk dst (.p o) none,some js)::m) st es fr h Q=qmh F (sel es js h.hid) (pop st fr o) dst m st es fr h Q:=jqw
def qkd (F:Fns) (x:Option (List (Nat×Nat))) (n:Nat) (agg:Bool) (p:Option AV) (dst:Option Nat) (m:List (IOper×Option (List Nat))) (st:List AV) (es:List Ent) (fr:List AV) (h:Hp) (Q:Ex->St->Prop):Prop:=obP x (fun hid'=>obP p (fun p=>zpD F (jj2 (h.hide h.next hid') n agg p) (.mk [] (some (fpV p))) dst m st es fr h Q))
theorem j0r {x:List (Nat×Nat)} {n:Nat}:qkd F (some x) n agg (some w) dst m st es fr h Q=zpD F (jj2 (h.hide h.next x) n agg w) (.mk [] (some (fpV w))) dst m st es fr h Q:=by
 unfold qkd;rw[jbw,jbw]
theorem jq3 {n:Nat} {x:Od}:WD F ((.mk dst (.a (.load n agg x)) none,some js)::m) st es fr h Q=qkd F (sel es js h.hid) n agg (ev st fr x) dst m st es fr h Q:=jq1
def qji (F:Fns) (x:Option (List (Nat×Nat))) (cs:Option (List SV)) (e:TypeId) (size len:Nat) (dst:Option Nat) (m:List (IOper×Option (List Nat))) (st:List AV) (es:List Ent) (fr:List AV) (h:Hp) (Q:Ex->St->Prop):Prop:=obP x (fun hid'=>obP cs (fun cs=>jai hid' h.next=false/\WD F m (.s (.slice h.next 0 len len true size)::st) (.mk [(h.next,h.next+1)] (some [])::es) (jbl fr dst (.s (.slice h.next 0 len len true size))) (h.push (.arr cs e)) Q))
theorem jq4 {x:List (Nat×Nat)} {cs:List SV} {e:TypeId} {size len:Nat} (hx:jai x h.next=false):qji F (some x) (some cs) e size len dst m st es fr h Q=WD F m (.s (.slice h.next 0 len len true size)::st) (.mk [(h.next,h.next+1)] (some [])::es) (jbl fr dst (.s (.slice h.next 0 len len true size))) (h.push (.arr cs e)) Q:=by
 unfold qji;rw[jbw,jbw];exact propext ⟨fun h=>h.2,fun h=>⟨hx,h⟩⟩
theorem qc1 {cs:List SV} {e:TypeId} {size len:Nat}:qji F (some []) (some cs) e size len dst m st es fr h Q=WD F m (.s (.slice h.next 0 len len true size)::st) (.mk [(h.next,h.next+1)] (some [])::es) (jbl fr dst (.s (.slice h.next 0 len len true size))) (h.push (.arr cs e)) Q:=jq4 rfl
theorem jmt {e:TypeId} {size:Nat} {len:Nat} {ps:List (Nat×Nat×Od)}:WD F ((.mk dst (.a (.bslice e size z len ps)) none,some js)::m) st es fr h Q=qji F (sel es js h.hid) (fill st fr ps z) e size len dst m st es fr h Q:=jms
def qnd (F:Fns) (x:Option (List (Nat×Nat))) (u:AV) (dst:Option Nat) (m:List (IOper×Option (List Nat))) (st:List AV) (es:List Ent) (fr:List AV) (h:Hp) (Q:Ex->St->Prop):Prop:=obP x (fun _=>WD F m (u::st) (.mk [(h.next,h.next)] none::es) (jbl fr dst u) h Q)
theorem j0s {x:List (Nat×Nat)} {u:AV}:qnd F (some x) u dst m st es fr h Q=WD F m (u::st) (.mk [(h.next,h.next)] none::es) (jbl fr dst u) h Q:=jbw
theorem qgv {e:TypeId}:WO F (.mk dst (.a (.new e z)) none::l) st fr h Q=zmO F (jcp st fr h (.new e z)) dst l st fr Q:=jd3 rfl
theorem qgw {e:TypeId}:WD F ((.mk dst (.a (.new e z)) none,none)::m) st es fr h Q=zmD F (jcp st fr h (.new e z)) dst m st es fr Q:=jej rfl
theorem qgx {e:TypeId} {x:Od}:WO F (.mk dst (.a (.box e x)) none::l) st fr h Q=zmO F (jcp st fr h (.box e x)) dst l st fr Q:=jd3 rfl
theorem qgy {e:TypeId} {x:Od}:WD F ((.mk dst (.a (.box e x)) none,none)::m) st es fr h Q=zmD F (jcp st fr h (.box e x)) dst m st es fr Q:=jej rfl
theorem j0t {e:TypeId} {size:Nat} {len:Nat} {ps:List (Nat×Nat×Od)}:WO F (.mk dst (.a (.bslice e size z len ps)) none::l) st fr h Q=zmO F (jcp st fr h (.bslice e size z len ps)) dst l st fr Q:=jd3 rfl
theorem j0u {e:TypeId} {size:Nat} {len:Nat} {ps:List (Nat×Nat×Od)}:WD F ((.mk dst (.a (.bslice e size z len ps)) none,none)::m) st es fr h Q=zmD F (jcp st fr h (.bslice e size z len ps)) dst m st es fr Q:=jej rfl
theorem jxk {e:TypeId} {size:Nat} {x y:Od}:WO F (.mk dst (.a (.mkslice e size bytes z x y)) none::l) st fr h Q=zmO F (jcp st fr h (.mkslice e size bytes z x y)) dst l st fr Q:=jd3 rfl
theorem jxl {e:TypeId} {size:Nat} {x y:Od}:WD F ((.mk dst (.a (.mkslice e size bytes z x y)) none,none)::m) st es fr h Q=zmD F (jcp st fr h (.mkslice e size bytes z x y)) dst m st es fr Q:=jej rfl
theorem qc2 {n:Nat} {x:Od}:WO F (.mk dst (.a (.load n agg x)) none::l) st fr h Q=zmO F (jcp st fr h (.load n agg x)) dst l st fr Q:=jd3 rfl
theorem qc3 {n:Nat} {x:Od}:WD F ((.mk dst (.a (.load n agg x)) none,none)::m) st es fr h Q=zmD F (jcp st fr h (.load n agg x)) dst m st es fr Q:=jej rfl
theorem j63 {n:Nat} {x y:Od}:WO F (.mk dst (.a (.store n x y)) none::l) st fr h Q=zmO F (jcp st fr h (.store n x y)) dst l st fr Q:=jd3 rfl
theorem j64 {n:Nat} {x y:Od}:WD F ((.mk dst (.a (.store n x y)) none,none)::m) st es fr h Q=zmD F (jcp st fr h (.store n x y)) dst m st es fr Q:=jej rfl
theorem qgz {e:TypeId} {size:Nat} {x y:Od}:WO F (.mk dst (.a (.app e size bytes x y)) none::l) st fr h Q=zmO F (jcp st fr h (.app e size bytes x y)) dst l st fr Q:=jd3 rfl
theorem qg0 {e:TypeId} {size:Nat} {x y:Od}:WD F ((.mk dst (.a (.app e size bytes x y)) none,none)::m) st es fr h Q=zmD F (jcp st fr h (.app e size bytes x y)) dst m st es fr Q:=jej rfl
theorem qc4 {size:Nat} {x y:Od}:WO F (.mk dst (.a (.copy size x y)) none::l) st fr h Q=zmO F (jcp st fr h (.copy size x y)) dst l st fr Q:=jd3 rfl
theorem qc5 {size:Nat} {x y:Od}:WD F ((.mk dst (.a (.copy size x y)) none,none)::m) st es fr h Q=zmD F (jcp st fr h (.copy size x y)) dst m st es fr Q:=jej rfl
theorem j65 {x:Od}:WO F (.mk dst (.a (.clear z x)) none::l) st fr h Q=zmO F (jcp st fr h (.clear z x)) dst l st fr Q:=jd3 rfl
theorem j66 {x:Od}:WD F ((.mk dst (.a (.clear z x)) none,none)::m) st es fr h Q=zmD F (jcp st fr h (.clear z x)) dst m st es fr Q:=jej rfl
theorem j67:WO F (.mk dst (.a (.mkmap va)) none::l) st fr h Q=zmO F (jcp st fr h (.mkmap va)) dst l st fr Q:=jd3 rfl
theorem j68:WD F ((.mk dst (.a (.mkmap va)) none,none)::m) st es fr h Q=zmD F (jcp st fr h (.mkmap va)) dst m st es fr Q:=jej rfl
theorem qc6 {x k:Od}:WO F (.mk dst (.a (.look sig va z okf x k)) none::l) st fr h Q=zmO F (jcp st fr h (.look sig va z okf x k)) dst l st fr Q:=jd3 rfl
theorem qc7 {x k:Od}:WD F ((.mk dst (.a (.look sig va z okf x k)) none,none)::m) st es fr h Q=zmD F (jcp st fr h (.look sig va z okf x k)) dst m st es fr Q:=jej rfl
theorem qc8 {x k y:Od}:WO F (.mk dst (.a (.mupd sig va x k y)) none::l) st fr h Q=zmO F (jcp st fr h (.mupd sig va x k y)) dst l st fr Q:=jd3 rfl
theorem qc9 {x k y:Od}:WD F ((.mk dst (.a (.mupd sig va x k y)) none,none)::m) st es fr h Q=zmD F (jcp st fr h (.mupd sig va x k y)) dst m st es fr Q:=jej rfl
theorem j0v {n size:Nat} {x:Od}:WO F (.mk dst (.a (.slicea n size x)) none::l) st fr h Q=zmO F (jcp st fr h (.slicea n size x)) dst l st fr Q:=jd3 rfl
theorem j0w {n size:Nat} {x:Od}:WD F ((.mk dst (.a (.slicea n size x)) none,none)::m) st es fr h Q=zmD F (jcp st fr h (.slicea n size x)) dst m st es fr Q:=jej rfl
theorem qda {size:Nat} {x:Od}:WO F (.mk dst (.a (.boxc size x)) none::l) st fr h Q=zmO F (jcp st fr h (.boxc size x)) dst l st fr Q:=jd3 rfl
theorem qdb {size:Nat} {x:Od}:WD F ((.mk dst (.a (.boxc size x)) none,none)::m) st es fr h Q=zmD F (jcp st fr h (.boxc size x)) dst m st es fr Q:=jej rfl
def qmi (o:BO) (x y:Option AV):Option AV:=ob x (fun a=>ob y (fun b=>svc none a (fun a=>svc none b (fun b=>jcv o a b))))
theorem qg1 {o:BO} {x y:Od}:pop st fr (.bin o x y)=qmi o (ev st fr x) (ev st fr y):=rfl
theorem j0x {o:BO} {a b:SV}:qmi o (some (.s a)) (some (.s b))=jcv o a b:=rfl
def qke (off:Nat) (x:Option AV):Option AV:=ob x (fun v=>jdv v (fun b o=>some (.s (.ptr b (o+off)))) (fun cs=>some (.s (.cp (jbd off cs)))))
theorem qg2 {off:Nat} {x:Od}:pop st fr (.fld off x)=qke off (ev st fr x):=rfl
theorem j69 {off b:Nat}:qke off (some (.s (.ptr b o)))=some (.s (.ptr b (o+off))):=rfl
theorem qdc {off:Nat} {cs:List SV}:qke off (some (.s (.cp cs)))=some (.s (.cp (jbd off cs))):=rfl
def qdd (x:Option AV):Option AV:=ob x (fun v=>jdv v (fun b o=>some (.s (.ptr b o))) (fun cs=>some (.s (.cp cs))))
theorem qde {x:Od}:pop st fr (.nchk x)=qdd (ev st fr x):=rfl
theorem j0y {b:Nat}:qdd (some (.s (.ptr b o)))=some (.s (.ptr b o)):=rfl
theorem j7a {cs:List SV}:qdd (some (.s (.cp cs)))=some (.s (.cp cs)):=rfl
def qmj (x:Option AV):Option AV:=ob x jlz
theorem qg3 {x:Od}:pop st fr (.len x)=qmj (ev st fr x):=rfl
theorem j0z:qmj (some v)=jlz v:=rfl
def qmk (size:Nat) (x y:Option AV):Option AV:=ob x (fun v=>ob y (fun w=>jj3 size v w))
theorem qg4 {size:Nat} {x i:Od}:pop st fr (.ixs size x i)=qmk size (ev st fr x) (ev st fr i):=rfl
theorem j00 {size:Nat}:qmk size (some v) (some w)=jj3 size v w:=rfl
def qml (n size:Nat) (x y:Option AV):Option AV:=ob x (fun v=>ob y (fun w=>j4z n size v w))
theorem qg5 {n size:Nat} {x i:Od}:pop st fr (.ixa n size x i)=qml n size (ev st fr x) (ev st fr i):=rfl
theorem j01 {n size:Nat}:qml n size (some v) (some w)=j4z n size v w:=rfl
def qg6 (x:Option AV) (a b:Od) (st fr:List AV):Option AV:=ob x (fun v=>jg8 v (fun t=>ev st fr (oif t a b)))
theorem qdf {c a b:Od}:pop st fr (.pick c a b)=qg6 (ev st fr c) a b st fr:=rfl
theorem jxm {a b:Od}:qg6 (some (.s (.bool t))) a b st fr=if t=true then ev st fr a else ev st fr b:=by cases t<;>rfl
def qmm (i:Nat) (x:Option AV):Option AV:=ob x (fun v=>AV.casesOn (motive:=fun _=>Option AV) v (fun _=>none) (fun _=>none) (fun l=>ob (jbp l i) (fun p=>jdw p.1 p.2)) none none)
theorem qg7 {x:Od}:pop st fr (.ext i x)=qmm i (ev st fr x):=rfl
def mk1 (p:Option (Bool×List SV)):Option AV:=ob p (fun p=>jdw p.1 p.2)
theorem j7b {a:Bool} {l:List SV}:mk1 (some (a,l))=jdw a l:=rfl
theorem j7c {l:List (Bool×List SV)}:qmm i (some (.tup l))=mk1 (jbp l i):=rfl
def ldR (h:Hp) (agg:Bool) (cs:Option (List SV)):R:=ob cs (fun cs=>ob (jdw agg cs) (fun v=>ok v h))
theorem qkf {cs:List SV}:ldR h true (some cs)=some (.agg cs,h):=rfl
theorem qkg {a:SV}:ldR h false (some [a])=some (.s a,h):=rfl
def qdg (h:Hp) (n:Nat) (agg:Bool) (x:Option AV):R:=ob x (fun v=>ob (jj2 h n agg v) (fun v=>ok v h))
theorem qdh {n:Nat} {x:Od}:jcp st fr h (.load n agg x)=qdg h n agg (ev st fr x):=juq
theorem j02 {n b:Nat}:qdg h n agg (some (.s (.ptr b o)))=ldR h agg (rdB (h.get b) o n):=by
 show ob (ob (rdB (h.get b) o n) _) _=_
 rw[qcp];rfl
theorem j7d {n:Nat} {cs:List SV}:qdg h n agg (some (.s (.cp cs)))=ldR h agg (ja3 n cs):=by
 show ob (ob (ja3 n cs) _) _=_
 rw[qcp];rfl
def jgf (h:Hp) (n:Nat) (x y:Option AV):R:=ob x (fun p=>ob y (fun v=>j0m h n p v))
theorem j7e {n:Nat} {x v:Od}:jcp st fr h (.store n x v)=jgf h n (ev st fr x) (ev st fr v):=rfl
def stR (h:Option Hp):R:=ob h (fun h=>ok .undef h)
theorem j7f:stR (some h)=some (.undef,h):=rfl
theorem j7g {b:Nat} {x:SV} (k:Ok h):jgf h 1 (some (.s (.ptr b o))) (some (.s x))=stR (wrB h b (h.get b) o [x]):=j6o k
theorem jxn {n b:Nat} {cs:List SV} (k:Ok h) (hn:cs.length=n):jgf h n (some (.s (.ptr b o))) (some (.agg cs))=stR (wrB h b (h.get b) o cs):=jxe k hn
def qmn (h:Hp) (e:TypeId) (size bytes:Nat) (x y:Option AV):R:=ob x (fun v=>ob y (fun w=>jjv h e size bytes v w))
theorem j03 {e:TypeId} {size:Nat} {x y:Od}:jcp st fr h (.app e size bytes x y)=qmn h e size bytes (ev st fr x) (ev st fr y):=rfl
theorem jl0 {e:TypeId} {size:Nat}:qmn h e size bytes (some v) (some w)=jjv h e size bytes v w:=rfl
def bsO (h:Hp) (e:TypeId) (size len:Nat) (x:Option (List SV)):R:=ob x (fun cs=>some (.s (.slice h.next 0 len len true size),h.push (.arr cs e)))
theorem j7h {e:TypeId} {size len:Nat} {cs:List SV}:bsO h e size len (some cs)=some (.s (.slice h.next 0 len len true size),h.push (.arr cs e)):=rfl
theorem j04 {e:TypeId} {size:Nat} {len:Nat} {ps:List (Nat×Nat×Od)} (k:Ok h):jcp st fr h (.bslice e size z len ps)=bsO h e size len (fill st fr ps z):=jxf k
def qjj (h:Hp) (e:TypeId) (x:Option AV):R:=ob x (fun v=>cel v (fun cs=>some (.s (.ptr h.next 0),h.push (.arr cs e))))
theorem qg8 {e:TypeId} {x:Od} (k:Ok h):jcp st fr h (.box e x)=qjj h e (ev st fr x):=qcr k
theorem qg9 {e:TypeId} {x:SV}:qjj h e (some (.s x))=some (.s (.ptr h.next 0),h.push (.arr [x] e)):=rfl
theorem j7i {e:TypeId} {cs:List SV}:qjj h e (some (.agg cs))=some (.s (.ptr h.next 0),h.push (.arr cs e)):=rfl
def qmo (h:Hp) (e:TypeId) (size bytes:Nat) (z:List SV) (x y:Option AV):R:=ob x (fun v=>ob y (fun u=>qgt h e size bytes z v u))
theorem jxo {e:TypeId} {size:Nat} {l c:Od}:jcp st fr h (.mkslice e size bytes z l c)=qmo h e size bytes z (ev st fr l) (ev st fr c):=rfl
theorem j05 {e:TypeId} {size:Nat}:qmo h e size bytes z (some v) (some w)=qgt h e size bytes z v w:=rfl
def re1 (h:Hp) (x:Option (Bool×List SV)):R:=ob x (fun p=>ob (jdw p.1 p.2) (fun v=>some (v,h)))
theorem qha {r:IR}:jbq (.mk fr h) [r]=re1 h (jjy fr h r):=jxi
theorem qkh {a:SV}:re1 h (some (false,[a]))=some (.s a,h):=rfl
theorem qki {l:List SV}:re1 h (some (true,l))=some (.agg l,h):=rfl
def reT (g:Option AV):Option (Bool×List SV):=ob g qnc
theorem qhb:jjy fr h (.tmp g)=reT (jbp fr g):=rfl
theorem qkj {x:SV}:reT (some (.s x))=some (false,[x]):=rfl
theorem qdi {x:List SV}:reT (some (.agg x))=some (true,x):=rfl
def reC (h:Hp) (n:Nat) (agg:Bool) (g:Option AV):Option (Bool×List SV):=ob g (fun v=>jmz v (fun b off=>ob (rdB (h.get b) off n) (fun cs=>some (agg,cs))))
theorem qdj {n:Nat}:jjy fr h (.cell g n agg)=reC h n agg (jbp fr g):=rfl
def reP (agg:Bool) (x:Option (List SV)):Option (Bool×List SV):=ob x (fun cs=>some (agg,cs))
theorem j7j {cs:List SV}:reP agg (some cs)=some (agg,cs):=rfl
theorem qdk {n b:Nat}:reC h n agg (some (.s (.ptr b o)))=reP agg (rdB (h.get b) o n):=rfl
def qkk (x:R) (Q:AV->Hp->Prop):Prop:=obP x (fun p=>Q p.1 p.2)
theorem j06 {Q:AV->Hp->Prop}:qkk (some (v,h)) Q=Q v h:=jbw
theorem js0 {res:List IR} {Q:AV->Hp->Prop}:j56 res Q .normal s=qkk (jbq s res) Q:=rfl
theorem j7k {res:List IR} {Q:AV->Hp->Prop}:j56 res Q .ret s=qkk (jbq s res) Q:=rfl
def re2 (h:Hp) (x:Option (List (Bool×List SV))):R:=ob x (fun vs=>some (.tup vs,h))
theorem j7l {l:List (Bool×List SV)}:re2 h (some l)=some (.tup l,h):=rfl
theorem qhc {r r':IR} {k:List IR}:jbq (.mk fr h) (r::r'::k)=re2 h (jeu fr h (r::r'::k)):=jxj
theorem js1 {size b off len mc sz:Nat} {ex:Bool} (hm:1<len):jj3 size (.s (.slice b off len mc ex sz)) (vi 1)=some (.s (.ptr b (off+size))):=by
 have:=jcc (size:=size) (b:=b) (off:=off) (len:=len) (mc:=mc) (sz:=sz) (ex:=ex) hm
 rw[Nat.one_mul] at this;exact this
theorem j07 {n size b off:Nat} (hm:0<n):j4z n size (.s (.ptr b off)) (vi 0)=some (.s (.ptr b off)):=by
 have:=jj9 (n:=n) (size:=size) (b:=b) (off:=off) hm
 rw[f1s,f12] at this;exact this
theorem j08 {n size b off:Nat} (hm:1<n):j4z n size (.s (.ptr b off)) (vi 1)=some (.s (.ptr b (off+size))):=by
 have:=jj9 (n:=n) (size:=size) (b:=b) (off:=off) hm
 rw[Nat.one_mul] at this;exact this
theorem j7m {n size:Nat} {cs:List SV} (hm:0<n):j4z n size (.s (.cp cs)) (vi 0)=some (.s (.cp cs)):=by
 have:=jsy (n:=n) (size:=size) (cs:=cs) hm
 rw[f1s] at this;exact this
theorem j7n {n size:Nat} {cs:List SV} (hm:1<n):j4z n size (.s (.cp cs)) (vi 1)=some (.s (.cp (jbd size cs))):=by
 have:=jsy (n:=n) (size:=size) (cs:=cs) hm
 rw[Nat.one_mul] at this;exact this
theorem qkl [k:Ok h]:h.hid=[]:=k.hid
theorem qhd [k:Ok h] {n:Nat} {hid:List (Nat×Nat)}:(h.hide lo hid).get n=if jai hid n=true then none else h.get n:=j6m k
theorem qhe [k:Ok h] {e:TypeId} {size:Nat} {len:Nat} {ps:List (Nat×Nat×Od)}:jcp st fr h (.bslice e size z len ps)=bsO h e size len (fill st fr ps z):=j04 k
theorem qkm [k:Ok h] {e:TypeId} {x:Od}:jcp st fr h (.box e x)=qjj h e (ev st fr x):=qg8 k
theorem qhf [k:Ok h] {e:TypeId}:jcp st fr h (.new e z)=some (.s (.ptr h.next 0),h.push (.arr z e)):=qcq k
theorem qkn [k:Ok h] {b:Nat} {x:SV}:jgf h 1 (some (.s (.ptr b o))) (some (.s x))=stR (wrB h b (h.get b) o [x]):=j7g k
theorem js2 [k:Ok h] {n b:Nat} {cs:List SV} (hn:cs.length=n):jgf h n (some (.s (.ptr b o))) (some (.agg cs))=stR (wrB h b (h.get b) o cs):=jxn k hn
theorem qhg [k:Ok h] {b:Nat} {t:SV}:jgf h 2 (some (.s (.ptr b o))) (some (.agg [t,u]))=stR (wrB h b (h.get b) o [t,u]):=js2 rfl
theorem qhh [k:Ok h] {b:Nat} {t v:SV}:jgf h 3 (some (.s (.ptr b o))) (some (.agg [t,u,v]))=stR (wrB h b (h.get b) o [t,u,v]):=js2 rfl
theorem qhi [k:Ok h] {b:Nat} {t v w:SV}:jgf h 4 (some (.s (.ptr b o))) (some (.agg [t,u,v,w]))=stR (wrB h b (h.get b) o [t,u,v,w]):=js2 rfl
theorem qhj [k:Ok h] {b:Nat} {t v w x:SV}:jgf h 5 (some (.s (.ptr b o))) (some (.agg [t,u,v,w,x]))=stR (wrB h b (h.get b) o [t,u,v,w,x]):=js2 rfl
theorem qhk [k:Ok h] {b:Nat} {t v w x:SV}:jgf h 6 (some (.s (.ptr b o))) (some (.agg [t,u,v,w,x,y]))=stR (wrB h b (h.get b) o [t,u,v,w,x,y]):=js2 rfl
theorem qhl [k:Ok h] {b:Nat} {t v w x z:SV}:jgf h 7 (some (.s (.ptr b o))) (some (.agg [t,u,v,w,x,y,z]))=stR (wrB h b (h.get b) o [t,u,v,w,x,y,z]):=js2 rfl
theorem qhm [k:Ok h] {x:AB} {n:Nat}:(h.push x).get n=if n=h.next then some x else h.get n:=jaq k
theorem qhn [k:Ok h] {b n:Nat} {x:Option AB} (hb:1<=b):(h.put b x).get n=if n=b then x else h.get n:=jba k hb
def mkL (agg:Bool) (x:Option (List SV)):Option AV:=ob x (fun cs=>jdw agg cs)
theorem qko {cs:List SV}:mkL true (some cs)=some (.agg cs):=rfl
theorem qkp {a:SV}:mkL false (some [a])=some (.s a):=rfl
theorem qho {n b:Nat}:jj2 h n agg (.s (.ptr b o))=mkL agg (rdB (h.get b) o n):=rfl
theorem qkq {n:Nat} {cs:List SV}:jj2 h n agg (.s (.cp cs))=mkL agg (ja3 n cs):=rfl
theorem qdl {a b:Int} (h1:0<=a) (h3:0<b):0<=a % b/\a % b<=a:=by
 have h2:=Int.emod_add_mul_ediv a b
 have h:=Int.ediv_nonneg h1 (Int.le_of_lt h3)
 have h4:=Int.mul_nonneg (Int.le_of_lt h3) h
 exact⟨Int.emod_nonneg a (by omega),by omega⟩
theorem js3 {a b:Int} (h1:0<=a) (h2:a<=9223372036854775807) (h3:0<b):jcv .rem (.int .i64 a) (.int .i64 b)=some (vi (a % b)):=by
 have:=qdl h1 h3
 rw[qcn,if_neg (by omega),Int.tmod_eq_emod_of_nonneg h1,jup (by omega) (by omega)]
theorem qdm {a b:Int} (h1:-9223372036854775808<=a) (h2:a<=9223372036854775807) (h3:0<b):-9223372036854775808<=a.tdiv b/\a.tdiv b<=9223372036854775807:=by
 have h:=Int.natAbs_tdiv_le_natAbs a b
 rcases(by omega:a<0∨0<=a) with h4 | h4
 .have h5:a.tdiv b<=0:=by
   obtain⟨c,rfl⟩:∃ c,a=-c:=⟨-a,by omega⟩
   rw[Int.neg_tdiv]
   have:=Int.tdiv_nonneg (a:=c) (b:=b) (by omega) (Int.le_of_lt h3)
   omega
  omega
 .omega
theorem js4 {a b:Int} (h1:-9223372036854775808<=a) (h2:a<=9223372036854775807) (h3:0<b):jcv .quo (.int .i64 a) (.int .i64 b)=some (vi (a.tdiv b)):=by
 have:=qdm h1 h2 h3
 rw[qcm,if_neg (by omega),jup this.1 this.2]
theorem js5 {a n:Int} {k:IntKind} (h1:0<=n) (h2:n<=63):jcv .shr (.int .i64 a) (.int k n)=some (vi (a / 2 ^ n.toNat)):=by
 obtain⟨m,rfl⟩:=Int.eq_ofNat_of_zero_le h1
 exact qco (by omega)
theorem j7o {a n:Nat}:(a=a+(n+1))=False:=eq_false (by omega)
theorem j7p {a n:Nat}:(a+(n+1)=a)=False:=eq_false (by omega)
theorem j7q {e:TypeId} {x:SV} (ok:Ok h) (h1:bytes<=1000):qgt h e 1 bytes [x] (vi 2) (vi 2)=some (.s (.slice h.next 0 2 2 true 1),h.push (.arr [x,x] e)) :=
 jhf (m:=2) ok (by omega) (by omega)
theorem qdn [ok:Ok h] {e:TypeId} {x:SV} (h1:bytes<=1000):qgt h e 1 bytes [x] (vi 2) (vi 2)=some (.s (.slice h.next 0 2 2 true 1),h.push (.arr [x,x] e)):=j7q ok h1
def qdo (F:Fns) (dst:Option Nat) (m:List (IOper×Option (List Nat))) (st:List AV) (es:List Ent) (fr:List AV) (h:Hp) (Q:Ex->St->Prop) (v:AV) (h':Hp):Prop:=WD F m (v::st) (.mk [(h.next,h'.next)] none::es) (jbl fr dst v) (.mk h'.next h'.tr h.lo h.hid) Q
def zkH (F:Fns) (x:Option (List (Nat×Nat))) (vs:Option (List AV)) (f:FuncId) (dst:Option Nat) (m:List (IOper×Option (List Nat))) (st:List AV) (es:List Ent) (fr:List AV) (h:Hp) (Q:Ex->St->Prop):Prop:=obP x (fun hid'=>obP vs (fun vs=>WC F f vs (h.hide h.next hid') (qdo F dst m st es fr h Q)))
theorem j7r {x:List (Nat×Nat)} {f:FuncId}:zkH F (some x) (some vs) f dst m st es fr h Q=WC F f vs (h.hide h.next x) (qdo F dst m st es fr h Q):=by
 unfold zkH;rw[jbw,jbw]
theorem jxp {x:List (Nat×Nat)}:qdo F dst m st es fr h Q v (h.hide lo x)=WD F m (v::st) (.mk [(h.next,h.next)] none::es) (jbl fr dst v) h Q:=by cases h;rfl
theorem jon {f:FuncId} {as:List Od}:WD F ((.mk dst (.a (.call f as)) none,some js)::m) st es fr h Q=zkH F (sel es js h.hid) (evs st fr as) f dst m st es fr h Q:=by
 cases h with
 | mk k t lo hid =>
 rw[jlw]
 have key:∀ n v h' e,jrv (ja0 F (run F n)) st fr es (.mk k t lo hid) (.a (.call f as)) none (some js)=some (.mk v h' e)↔∃ x vs h1,sel es js hid=some x/\evs st fr as=some vs/\ja0 F (run F n) f vs (.mk k t k x)=some (v,h1)/\h'=.mk h1.next h1.tr lo hid/\e=.mk [(k,h1.next)] none:=fun n v h' e=>by
  have e0:jrv (ja0 F (run F n)) st fr es (.mk k t lo hid) (.a (.call f as)) none (some js)=ob (sel es js hid) (fun x=>ob (ob (evs st fr as) (fun vs=>ja0 F (run F n) f vs (.mk k t k x))) (fun p=>Hp.casesOn (motive:=fun _=>Option DR) p.2 (fun n' t' _ _=>some (.mk p.1 (.mk n' t' lo hid) (.mk [(k,n')] none))))):=rfl
  rw[e0]
  constructor
  .intro h1
   obtain⟨x,hx,h2⟩:=jaa.1 h1
   obtain⟨p,hp,h3⟩:=jaa.1 h2
   obtain⟨vs,hvs,h4⟩:=jaa.1 hp
   obtain⟨v1,⟨n1,t1,l1,d1⟩⟩:=p
   cases h3
   exact⟨x,vs,_,hx,hvs,h4,rfl,rfl⟩
  .rintro ⟨x,vs,⟨n1,t1,l1,d1⟩,hx,hvs,h4,rfl,rfl⟩
   exact jaa.2 ⟨x,hx,jaa.2 ⟨(v,.mk n1 t1 l1 d1),jaa.2 ⟨vs,hvs,h4⟩,rfl⟩⟩
 refine propext ⟨fun⟨n,v,h',e,h1,h2⟩=>?_,fun⟨x,hx,vs,hvs,n,v,h1,h2,h3⟩=>⟨n,v,_,_,(key n v _ _).2 ⟨x,vs,h1,hx,hvs,h2,rfl,rfl⟩,h3⟩⟩
 obtain⟨x,vs,h3,hx,hvs,h4,rfl,rfl⟩:=(key n v h' e).1 h1
 exact⟨x,hx,vs,hvs,n,v,h3,h4,h2⟩
theorem jq5 {x:Option AB} {off sz:Nat} {c:SV} (hr:rdB x off sz=some row) (hj:row[j]?=some c):rdB x (off+j) 1=some [c]:=by
 cases x with
 | none=>cases hr
 | some x =>
  cases x with
  | map va es=>cases hr
  | arr cs ty =>
   rw[jdm,jaz] at hr ⊢
   obtain⟨h1,rfl⟩:=(jam _).1 hr
   have hjs:j<sz:=by
    rcases f0j j sz with h | h
    .exact h
    .rw [f0t (by simp;omega)] at hj;cases hj
   have hj2:cs[off+j]?=some c:=by
    rw[f11,if_pos hjs,f1c] at hj;exact hj
   have hl:off+j<cs.length:=by
    rcases f0j (off+j) cs.length with h | h
    .exact h
    .rw [f0t h] at hj2;cases hj2
   refine(jam _).2 ⟨by simp;omega,?_⟩
   have e:cs.drop (off+j)=c::cs.drop (off+j+1):=by
    rw[f0p hl]
    rw[f0b hl] at hj2
    rw[Option.some.inj hj2]
   rw[e];rfl
def mmV (mx:Bool) (x y:Option AV):Option AV:=ob x (fun a=>ob y (fun b=>jg1 a (fun k m=>jg1 b (fun k' n=>oif (Nat.beq (ikn k) (ikn k')) (some (.s (.int k (oif (ile m n) (oif mx n m) (oif mx m n))))) none))))
theorem qkr {mx:Bool} {x y:Od}:pop st fr (.mm mx x y)=mmV mx (ev st fr x) (ev st fr y):=rfl
theorem qdp {a b:Int}:mmV false (some (.s (.int .i64 a))) (some (.s (.int .i64 b)))=some (vi (if a<=b then a else b)):=by
 show some (AV.s (.int .i64 (oif (ile a b) a b)))=_
 rw[jaj,jco];simp only[decide_eq_true_eq]
theorem qdq {a b:Int}:mmV true (some (.s (.int .i64 a))) (some (.s (.int .i64 b)))=some (vi (if a<=b then b else a)):=by
 show some (AV.s (.int .i64 (oif (ile a b) b a)))=_
 rw[jaj,jco];simp only[decide_eq_true_eq]
end
theorem qne:type_of% @Int.cast_ofNat_Int:=@Int.cast_ofNat_Int
theorem qnf:type_of% @Int.natCast_zero:=@Int.natCast_zero
theorem qng:type_of% @Int.natCast_one:=@Int.natCast_one
theorem qnh:type_of% @decide_eq_true_eq:=@decide_eq_true_eq
theorem qni:type_of% @decide_eq_false_iff_not:=@decide_eq_false_iff_not
theorem qnj:type_of% @Bool.false_eq_true:=@Bool.false_eq_true
theorem qnk:type_of% @and_true:=@and_true
theorem qnl:type_of% @true_and:=@true_and
theorem qnm:type_of% @List.cons_append:=@List.cons_append
theorem qnn:type_of% @List.nil_append:=@List.nil_append
theorem qks:type_of% @decide_true:=@decide_true
theorem qkt:type_of% @decide_false:=@decide_false
theorem qku:type_of% @Bool.not_true:=@Bool.not_true
theorem qkv:type_of% @Bool.not_false:=@Bool.not_false
theorem qkw:type_of% @Nat.add_zero:=@Nat.add_zero
theorem qkx:type_of% @Nat.zero_add:=@Nat.zero_add
theorem qky:type_of% @Option.some.injEq:=@Option.some.injEq
theorem qkz:type_of% @Bool.true_eq_false:=@Bool.true_eq_false
theorem qk0:type_of% @not_true_eq_false:=@not_true_eq_false
theorem qk1:type_of% @not_false_eq_true:=@not_false_eq_true
theorem qk2:type_of% @Hp.next_push:=@Hp.next_push
theorem qk3:type_of% @Hp.next_put:=@Hp.next_put
theorem qk4:type_of% @Nat.add_assoc:=@Nat.add_assoc
attribute [go_sem] jon j7r jxp qga qj8 qgb qgc qb8 qcv j6v j52 qge qgf qcw j6q qcx j6t j6s j6w j6u j0o j6r qgh qcz j6x j6y qc0 j60 j6z j62 j61 j0p jq2 j0q jq3 j0r jmt j0s qc1 jq4 jju jw2 jzw jsp jzx j51 jqv jw3 jzy qgv qgx j0t jxk qc2 j63 qgz qc4 j65 j67 qc6 qc8 j0v qda qgw qgy j0u jxl qc3 j64 qg0 qc5 j66 j68 qc7 qc9 j0w qdb qm7 qm8 qm9 qcd j6a jz3 jz4 jz5 jz6 jz7 jz8 jsr jss qna qnb jz9 qj9 j0a j6b jw4 j6c jw5 qka qce qgi qgj qgk j6d jw6 jw7 jw8 jw9 j0b j6e j0c j0d jxa jqy jqz j0e qcf qcg qkr qdp qdq qgl qdf jxm j0f j6f j0g qg1 j0x qch qci qg2 j69 qdc j6g qg7 j7c j7b qde j0y j7a j6h j0h j6i j0i jxb jst j0j j6j j6k qg3 j0z j6l jom jxc jsu qcj qck qcl js4 js3 js5 qgn qgo qgp qgq qgr qgs qg4 j00 qg5 j01 qha qkh qki qhb qkj qdi qdj j7j qdk j06 js0 j7k jxg jhg jxh qhc j7l qkc jdm j0l qdh j02 j7d qkf qkg j7e j7f jxo j05 j03 jl0 j7h qg9 j7i qct qgu qcs j6p jxd jsw qho qkq qko qkp j7o j7p js1 jj9 jsy j07 j08 j7m j7n qkl qhd qhe qkm qhf qkn qhg qhh qhi qhj qhk qhl js2 qhm qhn qdn jsx jcc qne qnf qng qnh qni qnj qnk qnl qnm qnn qks qkt qku qkv qkw qkx qky qkz qk0 qk1 qk2 qk3 qk4
end
end Go.Proofs.Ytkplfnkgodnmaaa.Ev
