/- Open runs: what operations answer at values that are known in part. No program in sight. -/
import Derived.Test.YtmcfkgjjnhlkiaaOp
namespace Go.Proofs.Ytmcfkgjjnhlkiaa.Ev
noncomputable section
open Go Go.RowKit
set_option linter.all false
variable {t va agg ex' okf:Bool} {rows:List (List SV)} {vs:List AV} {sig:List Bool} {js:List Nat} {z xs:List SV} {g i o b' lo o' mc' sz' bytes:Nat} {u y:SV}
abbrev vi (n:Int):AV:=.s (.int .i64 n)
abbrev vb (b:Bool):AV:=.s (.bool b)
abbrev si (n:Int):SV:=.int .i64 n
section
variable {st fr:List AV} {h:Hp} {α β:Type}
theorem j7x:ev st fr (.l i)=jc5 st i:=rfl
theorem j7y:ev st fr (.g i)=jc5 fr i:=rfl
theorem j7z {v:AV}:ev st fr (.c v)=some v:=rfl
theorem jrl:evs st fr []=some []:=rfl
theorem jnk {o:Od} {l:List Od}:evs st fr (o::l)=ob (ev st fr o) (fun v=>ob (evs st fr l) (fun r=>some (v::r))):=rfl
theorem jj8 {a:α} {l:List α}:jc5 (a::l) 0=some a:=rfl
theorem jj9 {a:α} {l:List α} {n:Nat}:jc5 (a::l) (n+1)=jc5 l n:=rfl
theorem jka {a x:α} {l:List α}:jsw (a::l) 0 x=x::l:=rfl
theorem jkb {a x:α} {l:List α} {n:Nat}:jsw (a::l) (n+1) x=a::jsw l n x:=rfl
theorem jkc {v:AV}:jbc fr none v=fr:=rfl
theorem jkd {d:Nat} {v:AV}:jbc fr (some d) v=jsw fr d v:=rfl
theorem jft:jcd 0=[]:=rfl
theorem jfu {n:Nat}:jcd (n+1)=.undef::jcd n:=rfl
theorem j70 {a:α} {f:α->Option β}:ob (some a) f=f a:=rfl
theorem j71 {f:α->Option β}:ob none f=none:=rfl
theorem jrm {b:Bool} {x y:α}:oif b x y=if b=true then x else y:=by cases b<;>rfl
theorem j2s {e:Option β} {x:SV} {f:SV->Option β}:svc e (.s x) f=f x:=rfl
theorem jke {e:Option β} {f:SV->Option β}:svc e .undef f=e:=rfl
theorem jnl {k:IntKind} {n:Int} {f:IntKind->Int->Option β}:ju5 (.int k n) f=f k n:=rfl
theorem jhg {b:Bool} {f:Bool->Option β}:jik (.bool b) f=f b:=rfl
theorem jnm {k:IntKind} {n:Int} {f:IntKind->Int->Option β}:jlg (.s (.int k n)) f=f k n:=rfl
theorem jhh {b:Bool} {f:Bool->Option β}:jf3 (.s (.bool b)) f=f b:=rfl
theorem j2t {x:SV} {f:List SV->Option β}:cel (.s x) f=f [x]:=rfl
theorem jrn {l:List SV} {f:List SV->Option β}:cel (.agg l) f=f l:=rfl
theorem jxh {a:SV}:jcv false [a]=some (.s a):=rfl
theorem jxi {l:List SV}:jcv true l=some (.agg l):=rfl
theorem jxj {x:SV} {f:List SV->Option β}:jmk false (.s x) f=f [x]:=rfl
theorem jnn {l:List SV} {f:List SV->Option β}:jmk true (.agg l) f=f l:=rfl
theorem jhi {l:List α}:ja5 0 l=some []:=rfl
theorem jhj {a:α} {l:List α} {n:Nat}:ja5 (n+1) (a::l)=ob (ja5 n l) (fun x=>some (a::x)):=rfl
theorem jhk {l:List α}:jbh 0 l=l:=rfl
theorem jhl {a:α} {l:List α} {n:Nat}:jbh (n+1) (a::l)=jbh n l:=rfl
theorem jkf {n:Nat}:jbh n ([]:List α)=[]:=by cases n<;>rfl
theorem jno:jbo ([]:List α)=0:=rfl
theorem jkg {a:α} {l:List α}:jbo (a::l)=jbo l+1:=rfl
theorem jkh {l:List α}:jlf [] l=some l:=rfl
theorem jhm {x a:α} {xs l:List α}:jlf (x::xs) (a::l)=ob (jlf xs l) (fun y=>some (x::y)):=rfl
theorem jex {xs l:List α}:ja0 0 xs l=jlf xs l:=rfl
theorem jey {a:α} {xs l:List α} {n:Nat}:ja0 (n+1) xs (a::l)=ob (ja0 n xs l) (fun y=>some (a::y)):=rfl
theorem jki {a:Nat}:Nat.beq a a=true:=f1f a
theorem jro {a b:Nat}:(Nat.beq a b=true)=(a=b):=jfi a b
theorem jrp {a b:Nat}:(Nat.ble a b=true)=(a<=b):=jmn a b
theorem jxk {x:Od}:pop st fr (.mv x)=ev st fr x:=rfl
theorem jkj {ps:List (Nat×Nat×Od)}:pop st fr (.build z ps)=ob (fill st fr ps z) (fun cs=>some (.agg cs)):=rfl
theorem jnp {cs:List SV}:fill st fr [] cs=some cs:=rfl
theorem jkk {off n:Nat} {o:Od} {ps:List (Nat×Nat×Od)} {cs:List SV}:fill st fr ((off,n,o)::ps) cs=ob (ev st fr o) (fun v=>cel v (fun xs=>oif (Nat.beq (jbo xs) n) (ob (ja0 off xs cs) (fill st fr ps)) none)):=rfl
theorem jrq {x:Od}:pop st fr (.not x)=ob (ev st fr x) (fun v=>jf3 v (fun b=>some (.s (.bool (!b))))):=by
 show ob (ev st fr x) (fun v=>jf3 v (fun b=>some (AV.s (.bool (jdv b)))))=_
 congr 1;funext v;congr 1;funext b;cases b<;>rfl
theorem jrr {x:Od}:pop st fr (.neg x)=ob (ev st fr x) (fun v=>jlg v (fun k n=>ju0 k (-n))):=rfl
theorem jnq {off n:Nat} {x:Od}:pop st fr (.fval off n agg x)=ob (ev st fr x) (fun v=>AV.casesOn (motive:=fun _=>Option AV) v (fun _=>none) (fun cs=>ob (ja5 n (jbh off cs)) (fun cs=>jcv agg cs)) (fun _=>none) none none):=rfl
theorem jnr {k:IntKind} {x:Od}:pop st fr (.conv k x)=ob (ev st fr x) (fun v=>jlg v (fun _ n=>jze k n)):=rfl
theorem jkl {f:FuncId} {cs:List Od}:pop st fr (.mkfun f cs)=ob (evs st fr cs) (fun vs=>ob (j0q vs) (fun ps=>some (.s (.func f ps)))):=rfl
theorem jns:j0q []=some []:=rfl
theorem jkm {b:Nat} {l:List AV}:j0q (.s (.ptr b o)::l)=ob (j0q l) (fun r=>some ((b,o)::r)):=rfl
theorem jhn:jbp []=[]:=rfl
theorem jfv {b:Nat} {l:List (Nat×Nat)}:jbp ((b,o)::l)=.s (.ptr b o)::jbp l:=rfl
theorem jkn {b:Nat} {f:Nat->Nat->Option β} {g:List SV->Option β}:jcu (.s (.ptr b o)) f g=f b o:=rfl
theorem jnt {cs:List SV} {f:Nat->Nat->Option β} {g:List SV->Option β}:jcu (.s (.cp cs)) f g=g cs:=rfl
theorem jnu {b:Nat} {f:Nat->Nat->Option β}:jmh (.s (.ptr b o)) f=f b o:=rfl
def jza (v:AV):Option AV:=ja7 v (some (.s (.int .i64 0))) (fun _ _ n _ _ _=>some (.s (.int .i64 (Int.ofNat n)))) (fun rows=>some (.s (.int .i64 (Int.ofNat (jbo rows))))) (some (.s (.int .i64 0)))
theorem jnv:jza (.s .nilSlice)=some (vi 0):=rfl
theorem jiw:jza (.s (.lst rows))=some (vi rows.length):=by
 show some (AV.s (.int .i64 (Int.ofNat (jbo rows))))=_
 rw[jan];rfl
theorem jho {b n mc sz:Nat} {e:Bool}:jza (.s (.slice b o n mc e sz))=some (vi n):=rfl
def jxl (n:Int):Option AV:=if -9223372036854775808<=n/\n<=9223372036854775807 then some (vi n) else none
theorem j5s {n:Int} (h1:-9223372036854775808<=n) (h2:n<=9223372036854775807):inR .i64 n=true:=by
 cases n with
 | ofNat m=>exact(jmn m 9223372036854775807).symm▸(by have:(m:Int)<=9223372036854775807:=h2
                                                      omega)
 | negSucc m=>exact(jmn m 9223372036854775807).symm▸(by have:-9223372036854775808<=Int.negSucc m:=h1
                                                        omega)
theorem jko {n:Int}:ju0 .i64 n=jxl n:=by
 unfold jxl
 show oif (inR .i64 n) (some (AV.s (.int .i64 n))) none=_
 split
 .rename_i h;rw[j5s h.1 h.2];rfl
 .rename_i h
  cases e:inR .i64 n with
  | false=>rfl
  | true =>
   rcases jbx e with⟨_,a,b⟩ | ⟨e,_⟩ | ⟨e,_⟩
   .exact absurd ⟨a,b⟩ h
   .cases e
   .cases e
theorem jfb {n:Int} (h1:-9223372036854775808<=n) (h2:n<=9223372036854775807):jxl n=some (vi n):=if_pos ⟨h1,h2⟩
def w64 (n:Int):Int:=IntKind.wrap .i64 n
theorem jak {n:Int} (h1:-9223372036854775808<=n) (h2:n<=9223372036854775807):w64 n=n:=jf6 (j5s h1 h2)
theorem jrs {n:Int}:jzc .i64 n=some (vi (w64 n)):=by
 show oif (inR .i64 n) (some (AV.s (.int .i64 n))) (some (AV.s (.int .i64 (IntKind.wrap .i64 n))))=_
 cases e:inR .i64 n with
 | true=>rw[show w64 n=n from jf6 e];rfl
 | false=>rfl
variable {a b:Int}
theorem jrt:jc6 .add (.int .i64 a) (.int .i64 b)=some (vi (w64 (a+b))):=by
 rw[←jrs];show jzc .i64 (j0p a b)=_;rw[jmo]
theorem jru:jc6 .sub (.int .i64 a) (.int .i64 b)=some (vi (w64 (a - b))):=by rw[←jrs];rfl
theorem jrv:jc6 .mul (.int .i64 a) (.int .i64 b)=some (vi (w64 (a*b))):=by rw[←jrs];rfl
theorem j2u:jc6 .quo (.int .i64 a) (.int .i64 b)=if b=0 then none else jxl (a.tdiv b):=by
 rw[←jko]
 show oif (ieq b 0) none (ju0 .i64 (a.tdiv b))=_
 rw[jag,jbj];simp only[decide_eq_true_eq]
theorem jrw:jc6 .rem (.int .i64 a) (.int .i64 b)=if b=0 then none else jxl (a.tmod b):=by
 rw[←jko]
 show oif (ieq b 0) none (ju0 .i64 (a.tmod b))=_
 rw[jag,jbj];simp only[decide_eq_true_eq]
theorem jxm:jc6 .eq (.int .i64 a) (.int .i64 b)=some (vb (decide (a=b))):=by
 show some (AV.s (.bool (ieq a b)))=_;rw[jbj]
theorem jxn:jc6 .ne (.int .i64 a) (.int .i64 b)=some (vb (decide (a≠b))):=by
 show some (AV.s (.bool (jdv (ieq a b))))=_;rw[jbj,jdd];congr 3;by_cases h:a=b<;>simp[h]
theorem jxo:jc6 .lt (.int .i64 a) (.int .i64 b)=some (vb (decide (a<b))):=by
 show some (AV.s (.bool (jdv (ile b a))))=_;rw[jb2,jdd];congr 3;by_cases h:a<b<;>simp[h]
 omega
theorem jxp:jc6 .le (.int .i64 a) (.int .i64 b)=some (vb (decide (a<=b))):=by
 show some (AV.s (.bool (ile a b)))=_;rw[jb2]
theorem jxq:jc6 .gt (.int .i64 a) (.int .i64 b)=some (vb (decide (b<a))):=by
 show some (AV.s (.bool (jdv (ile a b))))=_;rw[jb2,jdd];congr 3;by_cases h:b<a<;>simp[h]
 omega
theorem jxr:jc6 .ge (.int .i64 a) (.int .i64 b)=some (vb (decide (b<=a))):=by
 show some (AV.s (.bool (ile b a)))=_;rw[jb2]
theorem j2v {n:Nat} {k:IntKind} (hn:n<=63):jc6 .shr (.int .i64 a) (.int k (n:Int))=some (vi (a / 2 ^ n)):=by
 have hs:jzd .i64 n=true:=by
  have hI:jiy .i64=true:=rfl
  unfold jzd
  simp[jag,jmn,hn,hI]
 have e:jc6 .shr (.int .i64 a) (.int k (n:Int))=jo8 .shr .i64 a (n:Int):=by
  show oif (Nat.beq (ikn .i64) (ikn k)) (jo8 .shr .i64 a n) (oif true (jo8 .shr .i64 a n) none)=_
  cases Nat.beq (ikn .i64) (ikn k)<;>rfl
 rw[e]
 cases a with
 | ofNat m =>
  show oif (jzd .i64 n) (some (AV.s (.int .i64 (Int.ofNat (Nat.div m (Nat.pow 2 n)))))) none=_
  rw[hs]
  have:Int.ofNat (Nat.div m (Nat.pow 2 n))=Int.ofNat m / 2 ^ n:=by
   show((m / 2 ^ n:Nat):Int)=(m:Int) / 2 ^ n
   rw[Int.natCast_ediv,f2m];rfl
  rw[this];rfl
 | negSucc m =>
  show oif (jzd .i64 n) (some (AV.s (.int .i64 (Int.negSucc (Nat.div m (Nat.pow 2 n)))))) none=_
  rw[hs]
  have:Int.negSucc (Nat.div m (Nat.pow 2 n))=Int.negSucc m / 2 ^ n:=by
   obtain⟨q,hq⟩:∃ q,2 ^ n=q+1:=⟨2 ^ n - 1,by have:=Nat.two_pow_pos n;omega⟩
   have h2:(2:Int) ^ n=((q+1:Nat):Int):=by rw[←hq,f2m];rfl
   have h3:Nat.pow 2 n=q+1:=hq
   rw[h2,h3];rfl
  rw[this];rfl
end
class Ok (h:Hp):Prop where
 hid:h.hid=[]
 lo:h.lo=0
 pos:1<=h.next
theorem jbv {a b:Nat} (h:a<=b):Nat.ble a b=true:=by rw[jmn];exact h
theorem jp8:Ok h0:=⟨rfl,rfl,f0b 1⟩
section
variable {h:Hp} {F:Fns} {st fr:List AV} {Q:Ex->St->Prop} {β:Type}
theorem jc2 {x:AB} (k:Ok h):Ok (h.push x):=⟨k.hid,k.lo,Nat.le_succ_of_le k.pos⟩
theorem jfj {b:Nat} {x:Option AB} (k:Ok h):Ok (h.put b x):=⟨by rw[Hp.hid_put];exact k.hid,by rw[Hp.lo_put];exact k.lo,by rw[Hp.next_put];exact k.pos⟩
instance iPush {x:AB} [k:Ok h]:Ok (h.push x):=jc2 k
instance iPut {b:Nat} {x:Option AB} [k:Ok h]:Ok (h.put b x):=jfj k
theorem jau {x:AB} {n:Nat} (k:Ok h):(h.push x).get n=if n=h.next then some x else h.get n:=by
 rw[Hp.get_eq,Hp.get_eq,Hp.hid_push,k.hid]
 have e:jac [] n=false:=rfl
 rw[e]
 show(h.tr.put (Nat.succ h.next) h.next (some x)).get n=_
 split
 .rename_i hn;subst hn;exact jaq _ _ _ _ k.pos (jh4 _)
 .rename_i hn;exact jax _ _ _ _ n k.pos (jh4 _) hn
theorem jdg {b n:Nat} {x:Option AB} (k:Ok h) (hb:1<=b):(h.put b x).get n=if n=b then x else h.get n:=by
 rw[Hp.get_eq,Hp.get_eq,Hp.hid_put,k.hid,Hp.tr_put]
 have e:jac [] n=false:=rfl
 rw[e]
 show(h.tr.put (Nat.succ b) b x).get n=_
 split
 .rename_i hn;subst hn;exact jaq _ _ _ _ hb (jh4 _)
 .rename_i hn;exact jax _ _ _ _ n hb (jh4 _) hn
def Hp.hide (h:Hp) (lo:Nat) (hid:List (Nat×Nat)):Hp:=.mk h.next h.tr lo hid
theorem jfc {n:Nat}:jac [] n=false:=by cases n<;>rfl
theorem jfw {a b n:Nat} {l:List (Nat×Nat)}:jac ((a,b)::l) n=if a<=n/\n<b then true else jac l n:=by
 show oif (Nat.ble a n) (oif (Nat.ble (n+1) b) true (jac l n)) (jac l n)=_
 simp only[jag,jmn]
 by_cases h1:a<=n
 .by_cases h2:n+1<=b
  .rw [if_pos h1,if_pos h2,if_pos ⟨h1,h2⟩]
  .rw [if_pos h1,if_neg h2,if_neg (fun h=>h2 h.2)]
 .rw [if_neg h1,if_neg (fun h=>h1 h.1)]
theorem jtq {n:Nat} {hid:List (Nat×Nat)} (k:Ok h):(h.hide lo hid).get n=if jac hid n=true then none else h.get n:=by
 rw[Hp.get_eq,Hp.get_eq,k.hid];rfl
theorem jrx {cs:List SV} {ty:TypeId} {f:Nat->Hp->Option β} (k:Ok h):nw h cs ty f=f h.next (h.push (.arr cs ty)):=by
 cases h with
 | mk n t lo hid =>
  obtain rfl:hid=[]:=k.hid
  rfl
theorem j5t {x:AB} {f:Nat->Hp->Option β} (k:Ok h):nwx h x f=f h.next (h.push x):=by
 cases h with
 | mk n t lo hid =>
  obtain rfl:hid=[]:=k.hid
  rfl
def rdB (x:Option AB) (off n:Nat):Option (List SV):=ob x (fun x=>AB.casesOn (motive:=fun _=>Option (List SV)) x (fun cs _=>ja5 n (jbh off cs)) (fun _ _=>none))
theorem jfx {cs:List SV} {ty:TypeId} {off n:Nat}:rdB (some (.arr cs ty)) off n=ja5 n (jbh off cs):=rfl
def wrB (h:Hp) (b:Nat) (x:Option AB) (off:Nat) (xs:List SV):Option Hp:=ob x (fun x=>AB.casesOn (motive:=fun _=>Option Hp) x (fun cs ty=>ob (ja0 off xs cs) (fun cs'=>some (h.put b (some (.arr cs' ty))))) (fun _ _=>none))
theorem j0b {b off:Nat} (k:Ok h):wr h b off xs=wrB h b (h.get b) off xs:=by
 show oif (Nat.ble h.lo b) _ none=_
 rw[k.lo];rfl
theorem jkp {b:Nat} {cs:List SV} {ty:TypeId} {off:Nat}:wrB h b (some (.arr cs ty)) off xs=ob (ja0 off xs cs) (fun cs'=>some (h.put b (some (.arr cs' ty)))):=rfl
def jim (h:Hp) (n:Nat) (agg:Bool) (v:AV):Option AV:=jcu v (fun b off=>ob (rd h b off n) (fun cs=>jcv agg cs)) (fun cs=>ob (ja5 n cs) (fun cs=>jcv agg cs))
theorem j2w {α γ:Type} {x:Option α} {f:α->Option β} {g:β->Option γ}:ob (ob x f) g=ob x (fun a=>ob (f a) g):=by cases x<;>rfl
theorem jtr {n:Nat} {x:Od}:jb6 st fr h (.load n agg x)=ob (ev st fr x) (fun v=>ob (jim h n agg v) (fun v=>ok v h)):=by
 show ob (ev st fr x) (fun v=>jcu v (fun b off=>ob (rd h b off n) (fun cs=>ob (jcv agg cs) (fun v=>ok v h))) (fun cs=>ob (ja5 n cs) (fun cs=>ob (jcv agg cs) (fun v=>ok v h))))=_
 congr 1
 funext v
 cases v with
 | s v=>cases v<;>first | rfl | (show ob _ _=ob (ob _ _) _;rw[j2w])
 | _=>rfl
def jxs (h:Hp) (n:Nat) (p v:AV):R:=jmh p (fun b off=>cel v (fun cs=>oif (Nat.beq (jbo cs) n) (ob (wr h b off cs) (fun h=>ok .undef h)) none))
theorem j0c {b:Nat} {v:SV} (k:Ok h):jxs h 1 (.s (.ptr b o)) (.s v)=ob (wrB h b (h.get b) o [v]) (fun h=>ok .undef h):=by
 show ob (wr h b o [v]) _=_
 rw[j0b k]
theorem jus {n b:Nat} {cs:List SV} (k:Ok h) (hn:cs.length=n):jxs h n (.s (.ptr b o)) (.agg cs)=ob (wrB h b (h.get b) o cs) (fun h=>ok .undef h):=by
 show oif (Nat.beq (jbo cs) n) (ob (wr h b o cs) _) none=_
 rw[j0b k,jan,hn,f1f];rfl
theorem j2x {e:TypeId} (k:Ok h):jb6 st fr h (.new e z)=some (.s (.ptr h.next 0),h.push (.arr z e)):=by
 show nw h z e (fun n h=>ok (.s (.ptr n 0)) h)=_
 rw[jrx k];rfl
theorem j2y {e:TypeId} {x:Od} (k:Ok h):jb6 st fr h (.box e x)=ob (ev st fr x) (fun v=>cel v (fun cs=>some (.s (.ptr h.next 0),h.push (.arr cs e)))):=by
 show ob (ev st fr x) (fun v=>cel v (fun cs=>nw h cs e (fun n h=>ok (.s (.ptr n 0)) h)))=_
 congr 1;funext v;congr 1;funext cs;rw[jrx k];rfl
theorem jut {e:TypeId} {size:Nat} {len:Nat} {ps:List (Nat×Nat×Od)} (k:Ok h):jb6 st fr h (.bslice e size z len ps)=ob (fill st fr ps z) (fun cs=>some (.s (.slice h.next 0 len len true size),h.push (.arr cs e))):=by
 show ob (fill st fr ps z) (fun cs=>nw h cs e (fun n h=>ok (.s (.slice n 0 len len true size)) h))=_
 congr 1;funext cs;rw[jrx k];rfl
def j5u (h:Hp) (e:TypeId) (size bytes:Nat) (z:List SV) (l c:AV):R:=j0u l (fun m=>j0u c (fun k=>oif (Nat.ble m k) (oif (Nat.ble (Nat.mul bytes k) 1000000000) (oif (Nat.ble k 1000000000) (nw h (rep z k) e (fun b h=>ok (.s (.slice b 0 m k true size)) h)) none) none) none))
theorem j2z {e:TypeId} {size:Nat} {m:Nat} (k:Ok h) (h1:bytes*m<=1000000000) (h2:m<=1000000000):j5u h e size bytes z (vi m) (vi m)=some (.s (.slice h.next 0 m m true size),h.push (.arr (rep z m) e)):=by
 show oif (Nat.ble m m) (oif (Nat.ble (Nat.mul bytes m) 1000000000) (oif (Nat.ble m 1000000000) (nw h (rep z m) e _) none) none) none=_
 rw[jrx k,jbv (f0b m),jbv h2,show Nat.ble (Nat.mul bytes m) 1000000000=true from jbv h1];rfl
def ju2 (size:Nat) (v w:AV):Option AV:=ja7 v none (fun b off len _ _ _=>jfn w len (fun m=>some (.s (.ptr b (Nat.add off (Nat.mul m size))))))
 (fun rows=>jfn w (jbo rows) (fun m=>ob (jc5 rows m) (fun row=>oif (Nat.beq (jbo row) size) (some (.s (.cp row))) none))) none
theorem jez {m n:Nat} {f:Nat->Option β} (hm:m<n):jfn (vi (m:Int)) n f=f m:=by
 show oif (Nat.ble (Nat.succ m) n) (f m) none=_
 rw[jbv (show Nat.succ m<=n from hm)];rfl
theorem jct {size b off len mc sz m:Nat} {ex:Bool} (hm:m<len):ju2 size (.s (.slice b off len mc ex sz)) (vi (m:Int))=some (.s (.ptr b (off+m*size))):=jez (f:=fun m=>some (AV.s (.ptr b (Nat.add off (Nat.mul m size))))) hm
theorem jfy {size b off len mc sz:Nat} {ex:Bool} (hm:0<len):ju2 size (.s (.slice b off len mc ex sz)) (vi 0)=some (.s (.ptr b off)):=by
 have:=jez (f:=fun m=>some (AV.s (.ptr b (Nat.add off (Nat.mul m size))))) hm
 refine this.trans ?_
 show some (AV.s (.ptr b (off+0*size)))=_
 rw[f06,f1j]
theorem j0d {size m:Nat} {row:List SV} (hr:rows[m]?=some row) (hl:row.length=size):ju2 size (.s (.lst rows)) (vi (m:Int))=some (.s (.cp row)):=by
 have hm:m<rows.length:=by
  rcases f0d m rows.length with h | h
  .exact h
  .rw [f1a h] at hr;cases hr
 have:=jez (f:=fun m=>ob (jc5 rows m) (fun row=>oif (Nat.beq (jbo row) size) (some (AV.s (.cp row))) none)) (show m<jbo rows by rw[jan];exact hm)
 refine this.trans ?_
 rw[jb0,hr]
 show oif (Nat.beq (jbo row) size) _ none=_
 rw[jan,hl,f1f];rfl
def ju3 (n size:Nat) (v w:AV):Option AV:=jcu v (fun b off=>jfn w n (fun m=>some (.s (.ptr b (Nat.add off (Nat.mul m size)))))) (fun cs=>jfn w n (fun m=>some (.s (.cp (jbh (Nat.mul m size) cs)))))
theorem jgl {n size b off m:Nat} (hm:m<n):ju3 n size (.s (.ptr b off)) (vi (m:Int))=some (.s (.ptr b (off+m*size))):=jez (f:=fun m=>some (AV.s (.ptr b (Nat.add off (Nat.mul m size))))) hm
theorem jkq {n size m:Nat} {cs:List SV} (hm:m<n):ju3 n size (.s (.cp cs)) (vi (m:Int))=some (.s (.cp (jbh (m*size) cs))):=jez (f:=fun m=>some (AV.s (.cp (jbh (Nat.mul m size) cs)))) hm
def j72 (h:Hp) (e:TypeId) (size bytes b n m:Nat) (x:Option AB) (new:List SV):R :=
 jgs bytes (Nat.add n m) (ob x (fun x=>AB.casesOn (motive:=fun _=>R) x (fun cs ty =>
  ob (ja5 (Nat.mul n size) (jbh 0 cs)) (fun old=>(oif (Nat.ble h.lo b) (oif (Nat.beq ty e) (nw (h.put b none) (jeb old new) e (fun k h=>ok (.s (.slice k 0 (Nat.add n m) (Nat.add n m) false size)) h)) none) none))) (fun _ _=>none)))
def j1o (h:Hp) (e:TypeId) (size bytes:Nat) (v w:AV):R:=ja7 w (jy8 v (ok v h)) (fun b' off' m _ _ _=>ob (rd h b' off' (Nat.mul m size)) (fun new=>jt5 h e size bytes m v new))
 (fun rows=>ob (jt4 size rows) (fun new=>jt5 h e size bytes (jbo rows) v new)) (jy8 v (ok v h))
theorem jfk {e:TypeId} {size m:Nat}:j1o h e size bytes (.s .nilSlice) (.s (.slice b' o' m mc' ex' sz'))=ob (rdB (h.get b') o' (m*size)) (fun new=>Nat.casesOn (motive:=fun _=>R) m (some (.s .nilSlice,h)) (fun _=>jgs bytes m (nw h new e (fun k h=>ok (.s (.slice k 0 m m false size)) h)))):=rfl
theorem jnw {n:Nat} {x:R} (h1:n*bytes<=1000000000) (h2:n<=1000000000):jgs bytes n x=x:=by
 show oif (Nat.ble (Nat.mul n bytes) 1000000000) (oif (Nat.ble n 1000000000) x none) none=_
 rw[show Nat.ble (Nat.mul n bytes) 1000000000=true from jbv h1,jbv h2];rfl
theorem jea {e:TypeId} {size b n m:Nat} (hm:1<=m):j1o h e size bytes (.s (.slice b 0 n n false size)) (.s (.slice b' o' m mc' ex' sz'))=ob (rdB (h.get b') o' (m*size)) (fun new=>j72 h e size bytes b n m (h.get b) new):=by
 show ob (rdB (h.get b') o' (m*size)) (fun new=>oif (Nat.beq size size) (oif (Nat.ble (Nat.add n m) n) _ (jgs bytes (Nat.add n m) (jgr h e size b 0 n m false new))) none)=_
 congr 1
 funext new
 have e1:Nat.ble (Nat.add n m) n=false:=by
  cases e:Nat.ble (Nat.add n m) n with
  | false=>rfl
  | true=>rw[jmn] at e;have:n+m<=n:=e;omega
 rw[f1f]
 show oif (Nat.ble (Nat.add n m) n) _ _=_
 rw[e1]
 rfl
theorem jxt {e:TypeId} {size b n m:Nat} {cs new:List SV} (k:Ok h) (hc:cs.length=n*size) (h1:(n+m)*bytes<=1000000000) (h2:n+m<=1000000000) :
 j72 h e size bytes b n m (some (.arr cs e)) new=some (.s (.slice h.next 0 (n+m) (n+m) false size),(h.put b none).push (.arr (cs++new) e)):=by
 show jgs bytes (n+m) (ob (ja5 (n*size) cs) (fun old=>oif (Nat.ble h.lo b) (oif (Nat.beq e e) (nw (h.put b none) (jeb old new) e _) none) none))=_
 rw[jnw h1 h2,(jap _).2 ⟨f2l hc.symm,rfl⟩,←hc,List.take_length]
 show oif (Nat.ble h.lo b) (oif (Nat.beq e e) (nw (h.put b none) (jeb cs new) e _) none) none=_
 rw[k.lo,f1f,jrx (jfj k),jb1,Hp.next_put]
 rfl
def j9i (v:AV):Option (Bool×List SV):=AV.casesOn (motive:=fun _=>Option (Bool×List SV)) v (fun s=>some (false,[s])) (fun l=>some (true,l)) (fun _=>none) none none
theorem jhp:jdk fr h []=some []:=rfl
theorem jc3 {r:IR} {l:List IR}:jdk fr h (r::l)=ob (jil fr h r) (fun v=>ob (jdk fr h l) (fun x=>some (v::x))):=rfl
theorem jhq:jbi (.mk fr h) []=some (.tup [],h):=rfl
theorem juu {r:IR}:jbi (.mk fr h) [r]=ob (jil fr h r) (fun p=>ob (jcv p.1 p.2) (fun v=>some (v,h))):=by
 show ob (ob (jil fr h r) (fun v=>ob (some []) (fun x=>some (v::x)))) (fun vs=>List.casesOn (motive:=fun _=>R) vs (ok (.tup []) h) (fun p r=>List.casesOn (motive:=fun _=>R) r (ob (jcv p.1 p.2) (fun v=>ok v h)) (fun _ _=>ok (.tup vs) h)))=_
 cases jil fr h r<;>rfl
theorem juv {r r':IR} {l:List IR}:jbi (.mk fr h) (r::r'::l)=ob (jdk fr h (r::r'::l)) (fun vs=>some (.tup vs,h)):=by
 show ob (jdk fr h (r::r'::l)) (fun vs=>List.casesOn (motive:=fun _=>R) vs (ok (.tup []) h) (fun p r=>List.casesOn (motive:=fun _=>R) r (ob (jcv p.1 p.2) (fun v=>ok v h)) (fun _ _=>ok (.tup vs) h)))=_
 rw[jc3,jc3]
 cases jil fr h r with
 | none=>rfl
 | some a=>cases jil fr h r' with
  | none=>rfl
  | some b=>cases jdk fr h l<;>rfl
theorem j20 {v:AV}:ok v h=some (v,h):=rfl
theorem jry {es:List Ent} {hid:List (Nat×Nat)}:sel es [] hid=some hid:=rfl
theorem jnx {es:List Ent} {j:Nat} {hid:List (Nat×Nat)}:sel es (j::js) hid=ob (jc5 es j) (fun e=>ob (sel es js hid) (fun l=>Ent.casesOn (motive:=fun _=>Option (List (Nat×Nat))) e (fun iv _=>some (iv++l)))):=by
 show ob (jc5 es j) (fun e=>ob (sel es js hid) (fun l=>Ent.casesOn (motive:=fun _=>Option (List (Nat×Nat))) e (fun iv _=>some (jeb iv l))))=_
 simp only[jb1]
def fpV:AV->List Nat
 | .s (.ptr b _)=>[b]
 | _=>[]
theorem jrz {b:Nat}:fpV (.s (.ptr b o))=[b]:=rfl
theorem jxu {cs:List SV}:fpV (.s (.cp cs))=[]:=rfl
theorem jp9 {es:List Ent} {dst:Option Nat} {n:Nat} {x:Od} {l:List (IOper×Option (List Nat))}:WD F ((.mk dst (.a (.load n agg x)) none,some js)::l) st es fr h Q=obP (sel es js h.hid) (fun hid'=>obP (ev st fr x) (fun p=>obP (jim (h.hide h.next hid') n agg p) (fun v=>WD F l (v::st) (.mk [] (some (fpV p))::es) (jbc fr dst v) h Q))):=by
 cases h with
 | mk k t lo hid =>
 rw[jrd (x:=ob (sel es js hid) (fun hid'=>ob (ev st fr x) (fun p=>ob (jim (.mk k t k hid') n agg p) (fun v=>some (DR.mk v (.mk k t lo hid) (.mk [] (some (fpV p)))))))) (fun cl=>?_)]
 .refine propext ⟨fun⟨p,h1,h2⟩=>?_,fun⟨hid',h0,q,h1,v,h2,h3⟩=>⟨.mk v (.mk k t lo hid) (.mk [] (some (fpV q))),jaa.2 ⟨hid',h0,jaa.2 ⟨q,h1,jaa.2 ⟨v,h2,rfl⟩⟩⟩,h3⟩⟩
  obtain⟨hid',h3,h4⟩:=jaa.1 h1
  obtain⟨q,h5,h6⟩:=jaa.1 h4
  obtain⟨v,h7,h8⟩:=jaa.1 h6
  cases h8
  exact⟨hid',h3,q,h5,v,h7,h2⟩
 .show jh2 cl st fr es (.mk k t lo hid) (.a (.load n agg x)) js=_
  show ob (sel es js hid) (fun hid'=>Cls.casesOn (motive:=fun _=>Option DR) (jpc (ob (ev st fr x) (fun v=>jcu v (fun b _=>some (Cls.load b)) (fun _=>some .quiet))) (fun c=>c))
   (jh1 cl st fr k t lo k hid hid' (.a (.load n agg x)) (fun n'=>.mk [(k,n')] (some [])))
   (fun x'=>jh1 cl st fr k t lo k hid hid' (.a (.load n agg x)) (fun _=>.mk [] (some [x'])))
   (fun b=>oif (jf5 es js b) (oif (Nat.ble lo b) (ob (Hp.get (.mk k t lo hid') b) (fun _=>jh1 cl st fr k t lo lo hid hid' (.a (.load n agg x)) (fun n'=>.mk [(b,Nat.succ b),(k,n')] none))) none) none)
   (jh1 cl st fr k t lo k hid hid' (.a (.load n agg x)) (fun _=>.mk [] (some [])))
   (jh1 cl st fr k t lo k hid hid' (.a (.load n agg x)) (fun n'=>.mk [(k,n')] none)))=_
  congr 1
  funext hid'
  have key:∀ e:Nat->Ent,jh1 cl st fr k t lo k hid hid' (.a (.load n agg x)) e=ob (ev st fr x) (fun p=>ob (jim (.mk k t k hid') n agg p) (fun v=>some (DR.mk v (.mk k t lo hid) (e k)))):=fun e=>by
   show ob (aop cl st fr (.mk k t k hid') (.load n agg x)) _=_
   rw[jhc (show AO.calls (.load n agg x)=false from rfl),jtr]
   cases ev st fr x with
   | none=>rfl
   | some p =>
    show ob (ob (jim (.mk k t k hid') n agg p) _) _=ob (jim (.mk k t k hid') n agg p) _
    cases jim (.mk k t k hid') n agg p<;>rfl
  have k1:=key (fun n'=>.mk [(k,n')] none)
  have k3:=key (fun _=>.mk [] (some []))
  have k2:=fun b=>key (fun _=>.mk [] (some [b]))
  cases hx:ev st fr x with
  | none =>
   rw[hx] at k1
   exact k1
  | some p =>
   rw[hx] at k1 k3
   simp only[hx] at k2
   cases p with
   | s p =>
    cases p with
    | ptr b o=>exact k2 b
    | cp cs=>exact k3
    | _=>exact k1
   | _=>exact k1
theorem jll {es:List Ent} {dst:Option Nat} {e:TypeId} {size:Nat} {len:Nat} {ps:List (Nat×Nat×Od)} {l:List (IOper×Option (List Nat))}:WD F ((.mk dst (.a (.bslice e size z len ps)) none,some js)::l) st es fr h Q=obP (sel es js h.hid) (fun hid'=>obP (fill st fr ps z) (fun cs=>jac hid' h.next=false/\WD F l (.s (.slice h.next 0 len len true size)::st) (.mk [(h.next,h.next+1)] (some [])::es) (jbc fr dst (.s (.slice h.next 0 len len true size))) (h.push (.arr cs e)) Q)):=by
 cases h with
 | mk k t lo hid =>
 rw[jrd (x:=ob (sel es js hid) (fun hid'=>ob (fill st fr ps z) (fun cs=>oif (jac hid' k) none (some (DR.mk (.s (.slice k 0 len len true size)) ((Hp.mk k t lo hid).push (.arr cs e)) (.mk [(k,k+1)] (some []))))))) (fun cl=>?_)]
 .refine propext ⟨fun⟨p,h1,h2⟩=>?_,fun⟨hid',h0,cs,h1,h2,h3⟩=>⟨DR.mk (.s (.slice k 0 len len true size)) ((Hp.mk k t lo hid).push (.arr cs e)) (.mk [(k,k+1)] (some [])),jaa.2 ⟨hid',h0,jaa.2 ⟨cs,h1,?_⟩⟩,h3⟩⟩
  .obtain ⟨hid',h3,h4⟩:=jaa.1 h1
   obtain⟨cs,h5,h6⟩:=jaa.1 h4
   rw[jag] at h6
   split at h6
   .cases h6
   .rename_i h7
    cases h6
    exact⟨hid',h3,cs,h5,Bool.eq_false_iff.2 h7,h2⟩
  .have h2':jac hid' k=false:=h2
   rw[h2'];rfl
 .show jh2 cl st fr es (.mk k t lo hid) (.a (.bslice e size z len ps)) js=_
  show ob (sel es js hid) (fun hid'=>ob (ob (fill st fr ps z) (fun cs=>oif (jac hid' k) none (ok (.s (.slice k 0 len len true size)) (Hp.mk (Nat.succ k) (t.put (Nat.succ k) k (some (.arr cs e))) k hid')))) (fun p=>Hp.casesOn (motive:=fun _=>Option DR) p.2 (fun n' t' _ _=>some (.mk p.1 (.mk n' t' lo hid) (.mk [(k,n')] (some []))))))=_
  congr 1
  funext hid'
  cases fill st fr ps z with
  | none=>rfl
  | some cs =>
   show ob (oif (jac hid' k) none _) _=oif (jac hid' k) none _
   cases jac hid' k<;>rfl
end
section
variable {F:Fns} {s:St} {st fr:List AV} {h h':Hp} {Q:Ex->St->Prop} {l:List IOper} {dst:Option Nat} {v w:AV} {m:List (IOper×Option (List Nat))} {es:List Ent}
def zpO (F:Fns) (x:Option AV) (dst:Option Nat) (l:List IOper) (st fr:List AV) (h:Hp) (Q:Ex->St->Prop):Prop:=obP x (fun v=>WO F l (v::st) (jbc fr dst v) h Q)
theorem jny:zpO F (some v) dst l st fr h Q=WO F l (v::st) (jbc fr dst v) h Q:=jay
def zmO (F:Fns) (x:R) (dst:Option Nat) (l:List IOper) (st fr:List AV) (Q:Ex->St->Prop):Prop:=obP x (fun p=>WO F l (p.1::st) (jbc fr dst p.1) p.2 Q)
theorem jnz:zmO F (some (v,h)) dst l st fr Q=WO F l (v::st) (jbc fr dst v) h Q:=jay
def j21 (F:Fns) (dst:Option Nat) (l:List IOper) (st fr:List AV) (Q:Ex->St->Prop) (v:AV) (h:Hp):Prop:=WO F l (v::st) (jbc fr dst v) h Q
theorem jn0:j21 F dst l st fr Q v h=WO F l (v::st) (jbc fr dst v) h Q:=rfl
def zkO (F:Fns) (x:Option (List AV)) (f:FuncId) (dst:Option Nat) (l:List IOper) (st fr:List AV) (h:Hp) (Q:Ex->St->Prop):Prop:=obP x (fun vs=>WC F f vs h (j21 F dst l st fr Q))
theorem jn1 {f:FuncId}:zkO F (some vs) f dst l st fr h Q=WC F f vs h (j21 F dst l st fr Q):=jay
def zgO (F:Fns) (x:Option AV) (t:Bool) (dst:Option Nat) (op:IOp) (l:List IOper) (st fr:List AV) (h:Hp) (Q:Ex->St->Prop):Prop:=gP x t (WO F (.mk dst op none::l) st fr h Q) (WO F l (.undef::st) (jbc fr dst .undef) h Q)
theorem jn2 {b:Bool} {op:IOp}:zgO F (some (.s (.bool b))) t dst op l st fr h Q=if b=t then WO F (.mk dst op none::l) st fr h Q else WO F l (.undef::st) (jbc fr dst .undef) h Q:=jws
theorem jkr {op:IOp}:zgO F (some .undef) t dst op l st fr h Q=WO F l (.undef::st) (jbc fr dst .undef) h Q:=jtp
def zcO (F:Fns) (x:Option AV) (a b:IC) (fr:List AV) (h:Hp) (Q:Ex->St->Prop):Prop:=j7b x (W F a (.mk fr h) Q) (W F b (.mk fr h) Q)
theorem jn3 {b:Bool} {x y:IC}:zcO F (some (.s (.bool b))) x y fr h Q=if b=true then W F x (.mk fr h) Q else W F y (.mk fr h) Q:=jwn
theorem jr0 {c:Od} {x y:IC}:W F (.cond c x y) (.mk fr h) Q=zcO F (ev [] fr c) x y fr h Q:=j5p
theorem jr1 {o:PO}:WO F (.mk dst (.p o) none::l) st fr h Q=zpO F (pop st fr o) dst l st fr h Q:=j2m
theorem jr2 {f:FuncId} {as:List Od}:WO F (.mk dst (.a (.call f as)) none::l) st fr h Q=zkO F (evs st fr as) f dst l st fr h Q:=j2n
theorem jn4 {op:IOp}:WO F (.mk dst op (some (i,t))::l) st fr h Q=zgO F (jc5 st i) t dst op l st fr h Q:=jz6
theorem jgm {x:Od} {as:List Od} {f:FuncId} {caps:List (Nat×Nat)} (hx:ev st fr x=some (.s (.func f caps))):WO F (.mk dst (.a (.callv x as)) none::l) st fr h Q=zkO F (ob (evs st fr as) (fun vs=>some (vs++jbp caps))) f dst l st fr h Q:=by
 rw[jz5]
 refine propext ⟨fun⟨g,cs,h1,vs,h2,h3⟩=>?_,fun⟨vs,h1,h2⟩=>?_⟩
 .rw [hx] at h1;cases h1
  exact⟨_,jaa.2 ⟨vs,h2,rfl⟩,h3⟩
 .obtain ⟨us,h3,h4⟩:=jaa.1 h1
  cases h4
  exact⟨f,caps,hx,us,h3,h2⟩
def zpD (F:Fns) (x:Option AV) (e:Ent) (dst:Option Nat) (m:List (IOper×Option (List Nat))) (st:List AV) (es:List Ent) (fr:List AV) (h:Hp) (Q:Ex->St->Prop):Prop:=obP x (fun v=>WD F m (v::st) (e::es) (jbc fr dst v) h Q)
theorem jn5 {e:Ent}:zpD F (some v) e dst m st es fr h Q=WD F m (v::st) (e::es) (jbc fr dst v) h Q:=jay
def zmD (F:Fns) (x:R) (dst:Option Nat) (m:List (IOper×Option (List Nat))) (st:List AV) (es:List Ent) (fr:List AV) (Q:Ex->St->Prop):Prop:=obP x (fun p=>WD F m (p.1::st) (.mk [] (some [])::es) (jbc fr dst p.1) p.2 Q)
theorem jn6:zmD F (some (v,h)) dst m st es fr Q=WD F m (v::st) (.mk [] (some [])::es) (jbc fr dst v) h Q:=jay
def j22 (F:Fns) (dst:Option Nat) (m:List (IOper×Option (List Nat))) (st:List AV) (es:List Ent) (fr:List AV) (Q:Ex->St->Prop) (v:AV) (h:Hp):Prop:=WD F m (v::st) (.mk [] (some [])::es) (jbc fr dst v) h Q
theorem jn7:j22 F dst m st es fr Q v h=WD F m (v::st) (.mk [] (some [])::es) (jbc fr dst v) h Q:=rfl
def zkD (F:Fns) (x:Option (List AV)) (f:FuncId) (dst:Option Nat) (m:List (IOper×Option (List Nat))) (st:List AV) (es:List Ent) (fr:List AV) (h:Hp) (Q:Ex->St->Prop):Prop:=obP x (fun vs=>WC F f vs h (j22 F dst m st es fr Q))
theorem jn8 {f:FuncId}:zkD F (some vs) f dst m st es fr h Q=WC F f vs h (j22 F dst m st es fr Q):=jay
def zgD (F:Fns) (x:Option AV) (t:Bool) (dst:Option Nat) (op:IOp) (o:Option (List Nat)) (m:List (IOper×Option (List Nat))) (st:List AV) (es:List Ent) (fr:List AV) (h:Hp) (Q:Ex->St->Prop):Prop:=gP x t (WD F ((.mk dst op none,o)::m) st es fr h Q) (WD F m (.undef::st) (.mk [] (some [])::es) (jbc fr dst .undef) h Q)
theorem jn9 {b:Bool} {op:IOp} {o:Option (List Nat)}:zgD F (some (.s (.bool b))) t dst op o m st es fr h Q=if b=t then WD F ((.mk dst op none,o)::m) st es fr h Q else WD F m (.undef::st) (.mk [] (some [])::es) (jbc fr dst .undef) h Q:=jws
theorem jks {op:IOp} {o:Option (List Nat)}:zgD F (some .undef) t dst op o m st es fr h Q=WD F m (.undef::st) (.mk [] (some [])::es) (jbc fr dst .undef) h Q:=jtp
theorem jr3 {o:PO}:WD F ((.mk dst (.p o) none,none)::m) st es fr h Q=zpD F (pop st fr o) (.mk [] (some [])) dst m st es fr h Q:=j2o
theorem jr4 {f:FuncId} {as:List Od}:WD F ((.mk dst (.a (.call f as)) none,none)::m) st es fr h Q=zkD F (evs st fr as) f dst m st es fr h Q:=j2p
theorem joa {op:IOp} {o:Option (List Nat)}:WD F ((.mk dst op (some (i,t)),o)::m) st es fr h Q=zgD F (jc5 st i) t dst op o m st es fr h Q:=jz7
def j8u (F:Fns) (x:Option (List (Nat×Nat))) (o:Option AV) (dst:Option Nat) (m:List (IOper×Option (List Nat))) (st:List AV) (es:List Ent) (fr:List AV) (h:Hp) (Q:Ex->St->Prop):Prop:=obP x (fun _=>zpD F o (.mk [(h.next,h.next)] (some [])) dst m st es fr h Q)
theorem jkt {x:List (Nat×Nat)} {o:Option AV}:j8u F (some x) o dst m st es fr h Q=zpD F o (.mk [(h.next,h.next)] (some [])) dst m st es fr h Q:=jay
theorem je0 {o:PO}:WD F ((.mk dst (.p o) none,some js)::m) st es fr h Q=j8u F (sel es js h.hid) (pop st fr o) dst m st es fr h Q:=jp6
def j73 (F:Fns) (x:Option (List (Nat×Nat))) (n:Nat) (agg:Bool) (p:Option AV) (dst:Option Nat) (m:List (IOper×Option (List Nat))) (st:List AV) (es:List Ent) (fr:List AV) (h:Hp) (Q:Ex->St->Prop):Prop:=obP x (fun hid'=>obP p (fun p=>zpD F (jim (h.hide h.next hid') n agg p) (.mk [] (some (fpV p))) dst m st es fr h Q))
theorem jku {x:List (Nat×Nat)} {n:Nat}:j73 F (some x) n agg (some w) dst m st es fr h Q=zpD F (jim (h.hide h.next x) n agg w) (.mk [] (some (fpV w))) dst m st es fr h Q:=by
 unfold j73;rw[jay,jay]
theorem je1 {n:Nat} {x:Od}:WD F ((.mk dst (.a (.load n agg x)) none,some js)::m) st es fr h Q=j73 F (sel es js h.hid) n agg (ev st fr x) dst m st es fr h Q:=jp9
def j6j (F:Fns) (x:Option (List (Nat×Nat))) (cs:Option (List SV)) (e:TypeId) (size len:Nat) (dst:Option Nat) (m:List (IOper×Option (List Nat))) (st:List AV) (es:List Ent) (fr:List AV) (h:Hp) (Q:Ex->St->Prop):Prop:=obP x (fun hid'=>obP cs (fun cs=>jac hid' h.next=false/\WD F m (.s (.slice h.next 0 len len true size)::st) (.mk [(h.next,h.next+1)] (some [])::es) (jbc fr dst (.s (.slice h.next 0 len len true size))) (h.push (.arr cs e)) Q))
theorem jgn {x:List (Nat×Nat)} {cs:List SV} {e:TypeId} {size len:Nat} (hx:jac x h.next=false):j6j F (some x) (some cs) e size len dst m st es fr h Q=WD F m (.s (.slice h.next 0 len len true size)::st) (.mk [(h.next,h.next+1)] (some [])::es) (jbc fr dst (.s (.slice h.next 0 len len true size))) (h.push (.arr cs e)) Q:=by
 unfold j6j;rw[jay,jay];exact propext ⟨fun h=>h.2,fun h=>⟨hx,h⟩⟩
theorem jr5 {cs:List SV} {e:TypeId} {size len:Nat}:j6j F (some []) (some cs) e size len dst m st es fr h Q=WD F m (.s (.slice h.next 0 len len true size)::st) (.mk [(h.next,h.next+1)] (some [])::es) (jbc fr dst (.s (.slice h.next 0 len len true size))) (h.push (.arr cs e)) Q:=jgn rfl
theorem jdh {e:TypeId} {size:Nat} {len:Nat} {ps:List (Nat×Nat×Od)}:WD F ((.mk dst (.a (.bslice e size z len ps)) none,some js)::m) st es fr h Q=j6j F (sel es js h.hid) (fill st fr ps z) e size len dst m st es fr h Q:=jll
def j9j (F:Fns) (x:Option (List (Nat×Nat))) (u:AV) (dst:Option Nat) (m:List (IOper×Option (List Nat))) (st:List AV) (es:List Ent) (fr:List AV) (h:Hp) (Q:Ex->St->Prop):Prop:=obP x (fun _=>WD F m (u::st) (.mk [(h.next,h.next)] none::es) (jbc fr dst u) h Q)
theorem jkv {x:List (Nat×Nat)} {u:AV}:j9j F (some x) u dst m st es fr h Q=WD F m (u::st) (.mk [(h.next,h.next)] none::es) (jbc fr dst u) h Q:=jay
theorem jxv {e:TypeId}:WO F (.mk dst (.a (.new e z)) none::l) st fr h Q=zmO F (jb6 st fr h (.new e z)) dst l st fr Q:=jda rfl
theorem jxw {e:TypeId}:WD F ((.mk dst (.a (.new e z)) none,none)::m) st es fr h Q=zmD F (jb6 st fr h (.new e z)) dst m st es fr Q:=jdb rfl
theorem jxx {e:TypeId} {x:Od}:WO F (.mk dst (.a (.box e x)) none::l) st fr h Q=zmO F (jb6 st fr h (.box e x)) dst l st fr Q:=jda rfl
theorem jxy {e:TypeId} {x:Od}:WD F ((.mk dst (.a (.box e x)) none,none)::m) st es fr h Q=zmD F (jb6 st fr h (.box e x)) dst m st es fr Q:=jdb rfl
theorem jkw {e:TypeId} {size:Nat} {len:Nat} {ps:List (Nat×Nat×Od)}:WO F (.mk dst (.a (.bslice e size z len ps)) none::l) st fr h Q=zmO F (jb6 st fr h (.bslice e size z len ps)) dst l st fr Q:=jda rfl
theorem jkx {e:TypeId} {size:Nat} {len:Nat} {ps:List (Nat×Nat×Od)}:WD F ((.mk dst (.a (.bslice e size z len ps)) none,none)::m) st es fr h Q=zmD F (jb6 st fr h (.bslice e size z len ps)) dst m st es fr Q:=jdb rfl
theorem jhr {e:TypeId} {size:Nat} {x y:Od}:WO F (.mk dst (.a (.mkslice e size bytes z x y)) none::l) st fr h Q=zmO F (jb6 st fr h (.mkslice e size bytes z x y)) dst l st fr Q:=jda rfl
theorem jhs {e:TypeId} {size:Nat} {x y:Od}:WD F ((.mk dst (.a (.mkslice e size bytes z x y)) none,none)::m) st es fr h Q=zmD F (jb6 st fr h (.mkslice e size bytes z x y)) dst m st es fr Q:=jdb rfl
theorem jr6 {n:Nat} {x:Od}:WO F (.mk dst (.a (.load n agg x)) none::l) st fr h Q=zmO F (jb6 st fr h (.load n agg x)) dst l st fr Q:=jda rfl
theorem jr7 {n:Nat} {x:Od}:WD F ((.mk dst (.a (.load n agg x)) none,none)::m) st es fr h Q=zmD F (jb6 st fr h (.load n agg x)) dst m st es fr Q:=jdb rfl
theorem job {n:Nat} {x y:Od}:WO F (.mk dst (.a (.store n x y)) none::l) st fr h Q=zmO F (jb6 st fr h (.store n x y)) dst l st fr Q:=jda rfl
theorem joc {n:Nat} {x y:Od}:WD F ((.mk dst (.a (.store n x y)) none,none)::m) st es fr h Q=zmD F (jb6 st fr h (.store n x y)) dst m st es fr Q:=jdb rfl
theorem jxz {e:TypeId} {size:Nat} {x y:Od}:WO F (.mk dst (.a (.app e size bytes x y)) none::l) st fr h Q=zmO F (jb6 st fr h (.app e size bytes x y)) dst l st fr Q:=jda rfl
theorem jx0 {e:TypeId} {size:Nat} {x y:Od}:WD F ((.mk dst (.a (.app e size bytes x y)) none,none)::m) st es fr h Q=zmD F (jb6 st fr h (.app e size bytes x y)) dst m st es fr Q:=jdb rfl
theorem jr8 {size:Nat} {x y:Od}:WO F (.mk dst (.a (.copy size x y)) none::l) st fr h Q=zmO F (jb6 st fr h (.copy size x y)) dst l st fr Q:=jda rfl
theorem jr9 {size:Nat} {x y:Od}:WD F ((.mk dst (.a (.copy size x y)) none,none)::m) st es fr h Q=zmD F (jb6 st fr h (.copy size x y)) dst m st es fr Q:=jdb rfl
theorem jod {x:Od}:WO F (.mk dst (.a (.clear z x)) none::l) st fr h Q=zmO F (jb6 st fr h (.clear z x)) dst l st fr Q:=jda rfl
theorem joe {x:Od}:WD F ((.mk dst (.a (.clear z x)) none,none)::m) st es fr h Q=zmD F (jb6 st fr h (.clear z x)) dst m st es fr Q:=jdb rfl
theorem jof:WO F (.mk dst (.a (.mkmap va)) none::l) st fr h Q=zmO F (jb6 st fr h (.mkmap va)) dst l st fr Q:=jda rfl
theorem jog:WD F ((.mk dst (.a (.mkmap va)) none,none)::m) st es fr h Q=zmD F (jb6 st fr h (.mkmap va)) dst m st es fr Q:=jdb rfl
theorem jsa {x k:Od}:WO F (.mk dst (.a (.look sig va z okf x k)) none::l) st fr h Q=zmO F (jb6 st fr h (.look sig va z okf x k)) dst l st fr Q:=jda rfl
theorem jsb {x k:Od}:WD F ((.mk dst (.a (.look sig va z okf x k)) none,none)::m) st es fr h Q=zmD F (jb6 st fr h (.look sig va z okf x k)) dst m st es fr Q:=jdb rfl
theorem jsc {x k y:Od}:WO F (.mk dst (.a (.mupd sig va x k y)) none::l) st fr h Q=zmO F (jb6 st fr h (.mupd sig va x k y)) dst l st fr Q:=jda rfl
theorem jsd {x k y:Od}:WD F ((.mk dst (.a (.mupd sig va x k y)) none,none)::m) st es fr h Q=zmD F (jb6 st fr h (.mupd sig va x k y)) dst m st es fr Q:=jdb rfl
theorem jky {n size:Nat} {x:Od}:WO F (.mk dst (.a (.slicea n size x)) none::l) st fr h Q=zmO F (jb6 st fr h (.slicea n size x)) dst l st fr Q:=jda rfl
theorem jkz {n size:Nat} {x:Od}:WD F ((.mk dst (.a (.slicea n size x)) none,none)::m) st es fr h Q=zmD F (jb6 st fr h (.slicea n size x)) dst m st es fr Q:=jdb rfl
theorem jse {size:Nat} {x:Od}:WO F (.mk dst (.a (.boxc size x)) none::l) st fr h Q=zmO F (jb6 st fr h (.boxc size x)) dst l st fr Q:=jda rfl
theorem jsf {size:Nat} {x:Od}:WD F ((.mk dst (.a (.boxc size x)) none,none)::m) st es fr h Q=zmD F (jb6 st fr h (.boxc size x)) dst m st es fr Q:=jdb rfl
def j8v (o:BO) (x y:Option AV):Option AV:=ob x (fun a=>ob y (fun b=>svc none a (fun a=>svc none b (fun b=>jc6 o a b))))
theorem jx1 {o:BO} {x y:Od}:pop st fr (.bin o x y)=j8v o (ev st fr x) (ev st fr y):=rfl
theorem jk0 {o:BO} {a b:SV}:j8v o (some (.s a)) (some (.s b))=jc6 o a b:=rfl
def j74 (off:Nat) (x:Option AV):Option AV:=ob x (fun v=>jcu v (fun b o=>some (.s (.ptr b (o+off)))) (fun cs=>some (.s (.cp (jbh off cs)))))
theorem jx2 {off:Nat} {x:Od}:pop st fr (.fld off x)=j74 off (ev st fr x):=rfl
theorem joh {off b:Nat}:j74 off (some (.s (.ptr b o)))=some (.s (.ptr b (o+off))):=rfl
theorem jsg {off:Nat} {cs:List SV}:j74 off (some (.s (.cp cs)))=some (.s (.cp (jbh off cs))):=rfl
def j23 (x:Option AV):Option AV:=ob x (fun v=>jcu v (fun b o=>some (.s (.ptr b o))) (fun cs=>some (.s (.cp cs))))
theorem jsh {x:Od}:pop st fr (.nchk x)=j23 (ev st fr x):=rfl
theorem jk1 {b:Nat}:j23 (some (.s (.ptr b o)))=some (.s (.ptr b o)):=rfl
theorem joi {cs:List SV}:j23 (some (.s (.cp cs)))=some (.s (.cp cs)):=rfl
def j8w (x:Option AV):Option AV:=ob x jza
theorem jx3 {x:Od}:pop st fr (.len x)=j8w (ev st fr x):=rfl
theorem jk2:j8w (some v)=jza v:=rfl
def j8x (size:Nat) (x y:Option AV):Option AV:=ob x (fun v=>ob y (fun w=>ju2 size v w))
theorem jx4 {size:Nat} {x i:Od}:pop st fr (.ixs size x i)=j8x size (ev st fr x) (ev st fr i):=rfl
theorem jk3 {size:Nat}:j8x size (some v) (some w)=ju2 size v w:=rfl
def j8y (n size:Nat) (x y:Option AV):Option AV:=ob x (fun v=>ob y (fun w=>ju3 n size v w))
theorem jx5 {n size:Nat} {x i:Od}:pop st fr (.ixa n size x i)=j8y n size (ev st fr x) (ev st fr i):=rfl
theorem jk4 {n size:Nat}:j8y n size (some v) (some w)=ju3 n size v w:=rfl
def j5v (x:Option AV) (a b:Od) (st fr:List AV):Option AV:=ob x (fun v=>jf3 v (fun t=>ev st fr (oif t a b)))
theorem jsi {c a b:Od}:pop st fr (.pick c a b)=j5v (ev st fr c) a b st fr:=rfl
theorem jht {a b:Od}:j5v (some (.s (.bool t))) a b st fr=if t=true then ev st fr a else ev st fr b:=by cases t<;>rfl
def j8z (i:Nat) (x:Option AV):Option AV:=ob x (fun v=>AV.casesOn (motive:=fun _=>Option AV) v (fun _=>none) (fun _=>none) (fun l=>ob (jc5 l i) (fun p=>jcv p.1 p.2)) none none)
theorem jx6 {x:Od}:pop st fr (.ext i x)=j8z i (ev st fr x):=rfl
def mk1 (p:Option (Bool×List SV)):Option AV:=ob p (fun p=>jcv p.1 p.2)
theorem joj {a:Bool} {l:List SV}:mk1 (some (a,l))=jcv a l:=rfl
theorem jok {l:List (Bool×List SV)}:j8z i (some (.tup l))=mk1 (jc5 l i):=rfl
def ldR (h:Hp) (agg:Bool) (cs:Option (List SV)):R:=ob cs (fun cs=>ob (jcv agg cs) (fun v=>ok v h))
theorem j24 {cs:List SV}:ldR h true (some cs)=some (.agg cs,h):=rfl
theorem j25 {a:SV}:ldR h false (some [a])=some (.s a,h):=rfl
def j26 (h:Hp) (n:Nat) (agg:Bool) (x:Option AV):R:=ob x (fun v=>ob (jim h n agg v) (fun v=>ok v h))
theorem jsj {n:Nat} {x:Od}:jb6 st fr h (.load n agg x)=j26 h n agg (ev st fr x):=jtr
theorem jk5 {n b:Nat}:j26 h n agg (some (.s (.ptr b o)))=ldR h agg (rdB (h.get b) o n):=by
 show ob (ob (rdB (h.get b) o n) _) _=_
 rw[j2w];rfl
theorem jol {n:Nat} {cs:List SV}:j26 h n agg (some (.s (.cp cs)))=ldR h agg (ja5 n cs):=by
 show ob (ob (ja5 n cs) _) _=_
 rw[j2w];rfl
def je2 (h:Hp) (n:Nat) (x y:Option AV):R:=ob x (fun p=>ob y (fun v=>jxs h n p v))
theorem jom {n:Nat} {x v:Od}:jb6 st fr h (.store n x v)=je2 h n (ev st fr x) (ev st fr v):=rfl
def stR (h:Option Hp):R:=ob h (fun h=>ok .undef h)
theorem jon:stR (some h)=some (.undef,h):=rfl
theorem j0e {b:Nat} {x:SV} (k:Ok h):je2 h 1 (some (.s (.ptr b o))) (some (.s x))=stR (wrB h b (h.get b) o [x]):=j0c k
theorem juw {n b:Nat} {cs:List SV} (k:Ok h) (hn:cs.length=n):je2 h n (some (.s (.ptr b o))) (some (.agg cs))=stR (wrB h b (h.get b) o cs):=jus k hn
def j80 (h:Hp) (e:TypeId) (size bytes:Nat) (x y:Option AV):R:=ob x (fun v=>ob y (fun w=>j1o h e size bytes v w))
theorem jx7 {e:TypeId} {size:Nat} {x y:Od}:jb6 st fr h (.app e size bytes x y)=j80 h e size bytes (ev st fr x) (ev st fr y):=rfl
theorem jk6 {e:TypeId} {size:Nat}:j80 h e size bytes (some v) (some w)=j1o h e size bytes v w:=rfl
def bsO (h:Hp) (e:TypeId) (size len:Nat) (x:Option (List SV)):R:=ob x (fun cs=>some (.s (.slice h.next 0 len len true size),h.push (.arr cs e)))
theorem joo {e:TypeId} {size len:Nat} {cs:List SV}:bsO h e size len (some cs)=some (.s (.slice h.next 0 len len true size),h.push (.arr cs e)):=rfl
theorem jx8 {e:TypeId} {size:Nat} {len:Nat} {ps:List (Nat×Nat×Od)} (k:Ok h):jb6 st fr h (.bslice e size z len ps)=bsO h e size len (fill st fr ps z):=jut k
def j6k (h:Hp) (e:TypeId) (x:Option AV):R:=ob x (fun v=>cel v (fun cs=>some (.s (.ptr h.next 0),h.push (.arr cs e))))
theorem j5w {e:TypeId} {x:Od} (k:Ok h):jb6 st fr h (.box e x)=j6k h e (ev st fr x):=j2y k
theorem jx9 {e:TypeId} {x:SV}:j6k h e (some (.s x))=some (.s (.ptr h.next 0),h.push (.arr [x] e)):=rfl
theorem jop {e:TypeId} {cs:List SV}:j6k h e (some (.agg cs))=some (.s (.ptr h.next 0),h.push (.arr cs e)):=rfl
def j81 (h:Hp) (e:TypeId) (size bytes:Nat) (z:List SV) (x y:Option AV):R:=ob x (fun v=>ob y (fun u=>j5u h e size bytes z v u))
theorem jhu {e:TypeId} {size:Nat} {l c:Od}:jb6 st fr h (.mkslice e size bytes z l c)=j81 h e size bytes z (ev st fr l) (ev st fr c):=rfl
theorem jk7 {e:TypeId} {size:Nat}:j81 h e size bytes z (some v) (some w)=j5u h e size bytes z v w:=rfl
def re1 (h:Hp) (x:Option (Bool×List SV)):R:=ob x (fun p=>ob (jcv p.1 p.2) (fun v=>some (v,h)))
theorem jya {r:IR}:jbi (.mk fr h) [r]=re1 h (jil fr h r):=juu
theorem j27 {a:SV}:re1 h (some (false,[a]))=some (.s a,h):=rfl
theorem j28 {l:List SV}:re1 h (some (true,l))=some (.agg l,h):=rfl
def reT (g:Option AV):Option (Bool×List SV):=ob g j9i
theorem jyb:jil fr h (.tmp g)=reT (jc5 fr g):=rfl
theorem j29 {x:SV}:reT (some (.s x))=some (false,[x]):=rfl
theorem jsk {x:List SV}:reT (some (.agg x))=some (true,x):=rfl
def reC (h:Hp) (n:Nat) (agg:Bool) (g:Option AV):Option (Bool×List SV):=ob g (fun v=>jmh v (fun b off=>ob (rdB (h.get b) off n) (fun cs=>some (agg,cs))))
theorem jsl {n:Nat}:jil fr h (.cell g n agg)=reC h n agg (jc5 fr g):=rfl
def reP (agg:Bool) (x:Option (List SV)):Option (Bool×List SV):=ob x (fun cs=>some (agg,cs))
theorem joq {cs:List SV}:reP agg (some cs)=some (agg,cs):=rfl
theorem jsm {n b:Nat}:reC h n agg (some (.s (.ptr b o)))=reP agg (rdB (h.get b) o n):=rfl
def j75 (x:R) (Q:AV->Hp->Prop):Prop:=obP x (fun p=>Q p.1 p.2)
theorem jk8 {Q:AV->Hp->Prop}:j75 (some (v,h)) Q=Q v h:=jay
theorem jfz {res:List IR} {Q:AV->Hp->Prop}:j7c res Q .normal s=j75 (jbi s res) Q:=rfl
theorem jor {res:List IR} {Q:AV->Hp->Prop}:j7c res Q .ret s=j75 (jbi s res) Q:=rfl
def re2 (h:Hp) (x:Option (List (Bool×List SV))):R:=ob x (fun vs=>some (.tup vs,h))
theorem jos {l:List (Bool×List SV)}:re2 h (some l)=some (.tup l,h):=rfl
theorem jyc {r r':IR} {k:List IR}:jbi (.mk fr h) (r::r'::k)=re2 h (jdk fr h (r::r'::k)):=juv
theorem jf0 {size b off len mc sz:Nat} {ex:Bool} (hm:1<len):ju2 size (.s (.slice b off len mc ex sz)) (vi 1)=some (.s (.ptr b (off+size))):=by
 have:=jct (size:=size) (b:=b) (off:=off) (len:=len) (mc:=mc) (sz:=sz) (ex:=ex) hm
 rw[f2k] at this;exact this
theorem jk9 {n size b off:Nat} (hm:0<n):ju3 n size (.s (.ptr b off)) (vi 0)=some (.s (.ptr b off)):=by
 have:=jgl (n:=n) (size:=size) (b:=b) (off:=off) hm
 rw[f06,f1j] at this;exact this
theorem jla {n size b off:Nat} (hm:1<n):ju3 n size (.s (.ptr b off)) (vi 1)=some (.s (.ptr b (off+size))):=by
 have:=jgl (n:=n) (size:=size) (b:=b) (off:=off) hm
 rw[f2k] at this;exact this
theorem jot {n size:Nat} {cs:List SV} (hm:0<n):ju3 n size (.s (.cp cs)) (vi 0)=some (.s (.cp cs)):=by
 have:=jkq (n:=n) (size:=size) (cs:=cs) hm
 rw[f06] at this;exact this
theorem jou {n size:Nat} {cs:List SV} (hm:1<n):ju3 n size (.s (.cp cs)) (vi 1)=some (.s (.cp (jbh size cs))):=by
 have:=jkq (n:=n) (size:=size) (cs:=cs) hm
 rw[f2k] at this;exact this
theorem j3a [k:Ok h]:h.hid=[]:=k.hid
theorem jyd [k:Ok h] {n:Nat} {hid:List (Nat×Nat)}:(h.hide lo hid).get n=if jac hid n=true then none else h.get n:=jtq k
theorem jye [k:Ok h] {e:TypeId} {size:Nat} {len:Nat} {ps:List (Nat×Nat×Od)}:jb6 st fr h (.bslice e size z len ps)=bsO h e size len (fill st fr ps z):=jx8 k
theorem j3b [k:Ok h] {e:TypeId} {x:Od}:jb6 st fr h (.box e x)=j6k h e (ev st fr x):=j5w k
theorem jyf [k:Ok h] {e:TypeId}:jb6 st fr h (.new e z)=some (.s (.ptr h.next 0),h.push (.arr z e)):=j2x k
theorem j3c [k:Ok h] {b:Nat} {x:SV}:je2 h 1 (some (.s (.ptr b o))) (some (.s x))=stR (wrB h b (h.get b) o [x]):=j0e k
theorem jov [k:Ok h] {n b:Nat} {cs:List SV} (hn:cs.length=n):je2 h n (some (.s (.ptr b o))) (some (.agg cs))=stR (wrB h b (h.get b) o cs):=juw k hn
theorem jyg [k:Ok h] {b:Nat} {t:SV}:je2 h 2 (some (.s (.ptr b o))) (some (.agg [t,u]))=stR (wrB h b (h.get b) o [t,u]):=jov rfl
theorem jyh [k:Ok h] {b:Nat} {t v:SV}:je2 h 3 (some (.s (.ptr b o))) (some (.agg [t,u,v]))=stR (wrB h b (h.get b) o [t,u,v]):=jov rfl
theorem jyi [k:Ok h] {b:Nat} {t v w:SV}:je2 h 4 (some (.s (.ptr b o))) (some (.agg [t,u,v,w]))=stR (wrB h b (h.get b) o [t,u,v,w]):=jov rfl
theorem jyj [k:Ok h] {b:Nat} {t v w x:SV}:je2 h 5 (some (.s (.ptr b o))) (some (.agg [t,u,v,w,x]))=stR (wrB h b (h.get b) o [t,u,v,w,x]):=jov rfl
theorem jyk [k:Ok h] {b:Nat} {t v w x:SV}:je2 h 6 (some (.s (.ptr b o))) (some (.agg [t,u,v,w,x,y]))=stR (wrB h b (h.get b) o [t,u,v,w,x,y]):=jov rfl
theorem jyl [k:Ok h] {b:Nat} {t v w x z:SV}:je2 h 7 (some (.s (.ptr b o))) (some (.agg [t,u,v,w,x,y,z]))=stR (wrB h b (h.get b) o [t,u,v,w,x,y,z]):=jov rfl
theorem jym [k:Ok h] {x:AB} {n:Nat}:(h.push x).get n=if n=h.next then some x else h.get n:=jau k
theorem jyn [k:Ok h] {b n:Nat} {x:Option AB} (hb:1<=b):(h.put b x).get n=if n=b then x else h.get n:=jdg k hb
def mkL (agg:Bool) (x:Option (List SV)):Option AV:=ob x (fun cs=>jcv agg cs)
theorem j3d {cs:List SV}:mkL true (some cs)=some (.agg cs):=rfl
theorem j3e {a:SV}:mkL false (some [a])=some (.s a):=rfl
theorem jyo {n b:Nat}:jim h n agg (.s (.ptr b o))=mkL agg (rdB (h.get b) o n):=rfl
theorem j3f {n:Nat} {cs:List SV}:jim h n agg (.s (.cp cs))=mkL agg (ja5 n cs):=rfl
theorem j3g {a b:Int} (h1:0<=a) (h3:0<b):0<=a % b/\a % b<=a:=by
 have h2:=Int.emod_add_mul_ediv a b
 have h:=Int.ediv_nonneg h1 (Int.le_of_lt h3)
 have h4:=Int.mul_nonneg (Int.le_of_lt h3) h
 exact⟨Int.emod_nonneg a (by omega),by omega⟩
theorem jc4 {a b:Int} (h1:0<=a) (h2:a<=9223372036854775807) (h3:0<b):jc6 .rem (.int .i64 a) (.int .i64 b)=some (vi (a % b)):=by
 have:=j3g h1 h3
 rw[jrw,if_neg (by omega),f1v h1,jfb (by omega) (by omega)]
theorem j3h {a b:Int} (h1:-9223372036854775808<=a) (h2:a<=9223372036854775807) (h3:0<b):-9223372036854775808<=a.tdiv b/\a.tdiv b<=9223372036854775807:=by
 have h:=Int.natAbs_tdiv_le_natAbs a b
 rcases(by omega:a<0∨0<=a) with h4 | h4
 .have h5:a.tdiv b<=0:=by
   obtain⟨c,rfl⟩:∃ c,a=-c:=⟨-a,by omega⟩
   rw[Int.neg_tdiv]
   have:=Int.tdiv_nonneg (a:=c) (b:=b) (by omega) (Int.le_of_lt h3)
   omega
  omega
 .omega
theorem jf1 {a b:Int} (h1:-9223372036854775808<=a) (h2:a<=9223372036854775807) (h3:0<b):jc6 .quo (.int .i64 a) (.int .i64 b)=some (vi (a.tdiv b)):=by
 have:=j3h h1 h2 h3
 rw[j2u,if_neg (by omega),jfb this.1 this.2]
theorem jf2 {a n:Int} {k:IntKind} (h1:0<=n) (h2:n<=63):jc6 .shr (.int .i64 a) (.int k n)=some (vi (a / 2 ^ n.toNat)):=by
 obtain⟨m,rfl⟩:=Int.eq_ofNat_of_zero_le h1
 exact j2v (by omega)
theorem jow {a n:Nat}:(a=a+(n+1))=False:=eq_false (by omega)
theorem jox {a n:Nat}:(a+(n+1)=a)=False:=eq_false (by omega)
theorem j0f {e:TypeId} {x:SV} (ok:Ok h) (h1:bytes<=1000):j5u h e 1 bytes [x] (vi 2) (vi 2)=some (.s (.slice h.next 0 2 2 true 1),h.push (.arr [x,x] e)) :=
 j2z (m:=2) ok (by omega) (by omega)
theorem jsn [ok:Ok h] {e:TypeId} {x:SV} (h1:bytes<=1000):j5u h e 1 bytes [x] (vi 2) (vi 2)=some (.s (.slice h.next 0 2 2 true 1),h.push (.arr [x,x] e)):=j0f ok h1
def j0g (F:Fns) (dst:Option Nat) (m:List (IOper×Option (List Nat))) (st:List AV) (es:List Ent) (fr:List AV) (h:Hp) (Q:Ex->St->Prop) (v:AV) (h':Hp):Prop:=WD F m (v::st) (.mk [(h.next,h'.next)] none::es) (jbc fr dst v) (.mk h'.next h'.tr h.lo h.hid) Q
def zkH (F:Fns) (x:Option (List (Nat×Nat))) (vs:Option (List AV)) (f:FuncId) (dst:Option Nat) (m:List (IOper×Option (List Nat))) (st:List AV) (es:List Ent) (fr:List AV) (h:Hp) (Q:Ex->St->Prop):Prop:=obP x (fun hid'=>obP vs (fun vs=>WC F f vs (h.hide h.next hid') (j0g F dst m st es fr h Q)))
theorem joy {x:List (Nat×Nat)} {f:FuncId}:zkH F (some x) (some vs) f dst m st es fr h Q=WC F f vs (h.hide h.next x) (j0g F dst m st es fr h Q):=by
 unfold zkH;rw[jay,jay]
theorem jhv {x:List (Nat×Nat)}:j0g F dst m st es fr h Q v (h.hide lo x)=WD F m (v::st) (.mk [(h.next,h.next)] none::es) (jbc fr dst v) h Q:=by cases h;rfl
theorem jd5 {f:FuncId} {as:List Od}:WD F ((.mk dst (.a (.call f as)) none,some js)::m) st es fr h Q=zkH F (sel es js h.hid) (evs st fr as) f dst m st es fr h Q:=by
 cases h with
 | mk k t lo hid =>
 rw[jhd]
 have key:∀ n v h' e,jqm (jam F (run F n)) st fr es (.mk k t lo hid) (.a (.call f as)) none (some js)=some (.mk v h' e)↔∃ x vs h1,sel es js hid=some x/\evs st fr as=some vs/\jam F (run F n) f vs (.mk k t k x)=some (v,h1)/\h'=.mk h1.next h1.tr lo hid/\e=.mk [(k,h1.next)] none:=fun n v h' e=>by
  have e0:jqm (jam F (run F n)) st fr es (.mk k t lo hid) (.a (.call f as)) none (some js)=ob (sel es js hid) (fun x=>ob (ob (evs st fr as) (fun vs=>jam F (run F n) f vs (.mk k t k x))) (fun p=>Hp.casesOn (motive:=fun _=>Option DR) p.2 (fun n' t' _ _=>some (.mk p.1 (.mk n' t' lo hid) (.mk [(k,n')] none))))):=rfl
  rw[e0]
  constructor
  .intro h1
   obtain⟨x,hx,h2⟩:=jaa.1 h1
   obtain⟨p,hp,h3⟩:=jaa.1 h2
   obtain⟨vs,hvs,h4⟩:=jaa.1 hp
   obtain⟨v1,⟨n1,t1,l1,d1⟩⟩:=p
   cases h3
   exact⟨x,vs,_,hx,hvs,h4,rfl,rfl⟩
  .rintro ⟨x,vs,⟨n1,t1,l1,d1⟩,hx,hvs,h4,rfl,rfl⟩
   exact jaa.2 ⟨x,hx,jaa.2 ⟨(v,.mk n1 t1 l1 d1),jaa.2 ⟨vs,hvs,h4⟩,rfl⟩⟩
 refine propext ⟨fun⟨n,v,h',e,h1,h2⟩=>?_,fun⟨x,hx,vs,hvs,n,v,h1,h2,h3⟩=>⟨n,v,_,_,(key n v _ _).2 ⟨x,vs,h1,hx,hvs,h2,rfl,rfl⟩,h3⟩⟩
 obtain⟨x,vs,h3,hx,hvs,h4,rfl,rfl⟩:=(key n v h' e).1 h1
 exact⟨x,hx,vs,hvs,n,v,h3,h4,h2⟩
def mmV (mx:Bool) (x y:Option AV):Option AV:=ob x (fun a=>ob y (fun b=>jlg a (fun k m=>jlg b (fun k' n=>oif (Nat.beq (ikn k) (ikn k')) (some (.s (.int k (oif (ile m n) (oif mx n m) (oif mx m n))))) none))))
theorem j3i {mx:Bool} {x y:Od}:pop st fr (.mm mx x y)=mmV mx (ev st fr x) (ev st fr y):=rfl
theorem jso {a b:Int}:mmV false (some (.s (.int .i64 a))) (some (.s (.int .i64 b)))=some (vi (if a<=b then a else b)):=by
 show some (AV.s (.int .i64 (oif (ile a b) a b)))=_
 rw[jag,jb2];simp only[decide_eq_true_eq]
theorem jsp {a b:Int}:mmV true (some (.s (.int .i64 a))) (some (.s (.int .i64 b)))=some (vi (if a<=b then b else a)):=by
 show some (AV.s (.int .i64 (oif (ile a b) b a)))=_
 rw[jag,jb2];simp only[decide_eq_true_eq]
end
theorem j9k:type_of% @Int.cast_ofNat_Int:=@Int.cast_ofNat_Int
theorem j9l:type_of% @Int.natCast_zero:=@Int.natCast_zero
theorem j9m:type_of% @Int.natCast_one:=@Int.natCast_one
theorem j9n:type_of% @decide_eq_true_eq:=@decide_eq_true_eq
theorem j9o:type_of% @decide_eq_false_iff_not:=@decide_eq_false_iff_not
theorem j9p:type_of% @Bool.false_eq_true:=@Bool.false_eq_true
theorem j9q:type_of% @and_true:=@and_true
theorem j9r:type_of% @true_and:=@true_and
theorem j9s:type_of% @List.cons_append:=@List.cons_append
theorem j9t:type_of% @List.nil_append:=@List.nil_append
theorem j76:type_of% @decide_true:=@decide_true
theorem j77:type_of% @decide_false:=@decide_false
theorem j78:type_of% @Bool.not_true:=@Bool.not_true
theorem j79:type_of% @Bool.not_false:=@Bool.not_false
theorem j8a:type_of% @Nat.add_zero:=@Nat.add_zero
theorem j8b:type_of% @Nat.zero_add:=@Nat.zero_add
theorem j8c:type_of% @Option.some.injEq:=@Option.some.injEq
theorem j8d:type_of% @Bool.true_eq_false:=@Bool.true_eq_false
theorem j8e:type_of% @not_true_eq_false:=@not_true_eq_false
theorem j8f:type_of% @not_false_eq_true:=@not_false_eq_true
theorem j8g:type_of% @Hp.next_push:=@Hp.next_push
theorem j8h:type_of% @Hp.next_put:=@Hp.next_put
theorem j8i:type_of% @Nat.add_assoc:=@Nat.add_assoc
attribute [go_sem] jd5 joy jhv jwo j2k jwp j2l jrc jr0 jn3 jm9 jwq jwr jr1 jny jr2 jn1 jn0 jn4 jn2 jkr jnz jwt jr3 jn5 jn6 jr4 jn8 jn7 joa jn9 jks je0 jkt je1 jku jdh jkv jr5 jgn jev jha jj0 jfs jj1 jm8 jew jhb jj2 jxv jxx jkw jhr jr6 job jxz jr8 jod jof jsa jsc jky jse jxw jxy jkx jhs jr7 joc jx0 jr9 joe jog jsb jsd jkz jsf j7x j7y j7z jrl jnk jj8 jj9 jka jkb jkc jkd jft jfu j70 j71 jrm j2s jke jnl jhg jnm jhh j2t jrn jxh jxi jxj jnn jhi jhj jhk jhl jkf jno jkg jkh jhm jex jey jki jro jrp j3i jso jsp jxk jsi jht jkj jnp jkk jx1 jk0 jrq jrr jx2 joh jsg jnq jx6 jok joj jsh jk1 joi jnr jkl jns jkm jhn jfv jkn jnt jnu jx3 jk2 jnv jiw jho jko jrt jru jrv jf1 jc4 jf2 jxm jxn jxo jxp jxq jxr jx4 jk3 jx5 jk4 jya j27 j28 jyb j29 jsk jsl joq jsm jk8 jfz jor jhp jc3 jhq jyc jos j20 jfx jkp jsj jk5 jol j24 j25 jom jon jhu jk7 jx7 jk6 joo jx9 jop jrz jxu jry jnx jfc jfw jyo j3f j3d j3e jow jox jf0 jgl jkq jk9 jla jot jou j3a jyd jye j3b jyf j3c jyg jyh jyi jyj jyk jyl jov jym jyn jsn jfy jct j9k j9l j9m j9n j9o j9p j9q j9r j9s j9t j76 j77 j78 j79 j8a j8b j8c j8d j8e j8f j8g j8h j8i
end
end Go.Proofs.Ytmcfkgjjnhlkiaa.Ev
