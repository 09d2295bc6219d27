/- Open runs: what operations answer at values that are known in part. No program in sight. -/
import Derived.Test.YthbghmhjgdonmaaOp
namespace Go.Proofs.Ythbghmhjgdonmaa.Ev
noncomputable section
open Go Go.RowKit
set_option linter.all false
variable {t va agg ex' okf:Bool} {rows:List (List SV)} {vs:List AV} {sig:List Bool} {js:List Nat} {z xs row:List SV} {g i j o b' lo o' mc' sz' bytes:Nat} {u:SV}
abbrev vi (n:Int):AV:=.s (.int .i64 n)
abbrev vb (b:Bool):AV:=.s (.bool b)
abbrev si (n:Int):SV:=.int .i64 n
section
variable {st fr:List AV} {h:Hp} {α β:Type}
theorem j7h:ev st fr (.l i)=jcl st i:=rfl
theorem j7i:ev st fr (.g i)=jcl fr i:=rfl
theorem j7j {v:AV}:ev st fr (.c v)=some v:=rfl
theorem jrh:evs st fr []=some []:=rfl
theorem jnt {o:Od} {l:List Od}:evs st fr (o::l)=ob (ev st fr o) (fun v=>ob (evs st fr l) (fun r=>some (v::r))):=rfl
theorem jkn {a:α} {l:List α}:jcl (a::l) 0=some a:=rfl
theorem jko {a:α} {l:List α} {n:Nat}:jcl (a::l) (n+1)=jcl l n:=rfl
theorem jkp {a x:α} {l:List α}:jqr (a::l) 0 x=x::l:=rfl
theorem jkq {a x:α} {l:List α} {n:Nat}:jqr (a::l) (n+1) x=a::jqr l n x:=rfl
theorem jkr {v:AV}:jba fr none v=fr:=rfl
theorem jks {d:Nat} {v:AV}:jba fr (some d) v=jqr fr d v:=rfl
theorem jf2:jce 0=[]:=rfl
theorem jf3 {n:Nat}:jce (n+1)=.undef::jce n:=rfl
theorem j7k {a:α} {f:α->Option β}:ob (some a) f=f a:=rfl
theorem j7l {f:α->Option β}:ob none f=none:=rfl
theorem jkt {b:Bool} {x y:α}:oif b x y=if b=true then x else y:=by cases b<;>rfl
theorem j28 {e:Option β} {x:SV} {f:SV->Option β}:svc e (.s x) f=f x:=rfl
theorem jku {e:Option β} {f:SV->Option β}:svc e .undef f=e:=rfl
theorem jnu {k:IntKind} {n:Int} {f:IntKind->Int->Option β}:jvf (.int k n) f=f k n:=rfl
theorem jho {b:Bool} {f:Bool->Option β}:jiq (.bool b) f=f b:=rfl
theorem jnv {k:IntKind} {n:Int} {f:IntKind->Int->Option β}:jiz (.s (.int k n)) f=f k n:=rfl
theorem jhp {b:Bool} {f:Bool->Option β}:jge (.s (.bool b)) f=f b:=rfl
theorem j29 {x:SV} {f:List SV->Option β}:cel (.s x) f=f [x]:=rfl
theorem jri {l:List SV} {f:List SV->Option β}:cel (.agg l) f=f l:=rfl
theorem jw4 {a:SV}:jc9 false [a]=some (.s a):=rfl
theorem jw5 {l:List SV}:jc9 true l=some (.agg l):=rfl
theorem jw6 {x:SV} {f:List SV->Option β}:jsx false (.s x) f=f [x]:=rfl
theorem jnw {l:List SV} {f:List SV->Option β}:jsx true (.agg l) f=f l:=rfl
theorem jhq {l:List α}:ja1 0 l=some []:=rfl
theorem jhr {a:α} {l:List α} {n:Nat}:ja1 (n+1) (a::l)=ob (ja1 n l) (fun x=>some (a::x)):=rfl
theorem jhs {l:List α}:jbf 0 l=l:=rfl
theorem jht {a:α} {l:List α} {n:Nat}:jbf (n+1) (a::l)=jbf n l:=rfl
theorem jkv {n:Nat}:jbf n ([]:List α)=[]:=by cases n<;>rfl
theorem jnx:jbu ([]:List α)=0:=rfl
theorem jkw {a:α} {l:List α}:jbu (a::l)=jbu l+1:=rfl
theorem jkx {l:List α}:jly [] l=some l:=rfl
theorem jhu {x a:α} {xs l:List α}:jly (x::xs) (a::l)=ob (jly xs l) (fun y=>some (x::y)):=rfl
theorem je0 {xs l:List α}:jbg 0 xs l=jly xs l:=rfl
theorem je1 {a:α} {xs l:List α} {n:Nat}:jbg (n+1) xs (a::l)=ob (jbg n xs l) (fun y=>some (a::y)):=rfl
theorem jky {a:Nat}:Nat.beq a a=true:=f1g a
theorem jrj {a b:Nat}:(Nat.beq a b=true)=(a=b):=jfm a b
theorem jrk {a b:Nat}:(Nat.ble a b=true)=(a<=b):=jpa a b
theorem jw7 {x:Od}:pop st fr (.mv x)=ev st fr x:=rfl
theorem jkz {ps:List (Nat×Nat×Od)}:pop st fr (.build z ps)=ob (fill st fr ps z) (fun cs=>some (.agg cs)):=rfl
theorem jny {cs:List SV}:fill st fr [] cs=some cs:=rfl
theorem jk0 {off n:Nat} {o:Od} {ps:List (Nat×Nat×Od)} {cs:List SV}:fill st fr ((off,n,o)::ps) cs=ob (ev st fr o) (fun v=>cel v (fun xs=>oif (Nat.beq (jbu xs) n) (ob (jbg off xs cs) (fill st fr ps)) none)):=rfl
theorem jrl {x:Od}:pop st fr (.not x)=ob (ev st fr x) (fun v=>jge v (fun b=>some (.s (.bool (!b))))):=by
 show ob (ev st fr x) (fun v=>jge v (fun b=>some (AV.s (.bool (jee b)))))=_
 congr 1;funext v;congr 1;funext b;cases b<;>rfl
theorem jrm {x:Od}:pop st fr (.neg x)=ob (ev st fr x) (fun v=>jiz v (fun k n=>jvb k (-n))):=rfl
theorem jnz {off n:Nat} {x:Od}:pop st fr (.fval off n agg x)=ob (ev st fr x) (fun v=>AV.casesOn (motive:=fun _=>Option AV) v (fun _=>none) (fun cs=>ob (ja1 n (jbf off cs)) (fun cs=>jc9 agg cs)) (fun _=>none) none none):=rfl
theorem jn0 {k:IntKind} {x:Od}:pop st fr (.conv k x)=ob (ev st fr x) (fun v=>jiz v (fun _ n=>jve k n)):=rfl
theorem jk1 {f:FuncId} {cs:List Od}:pop st fr (.mkfun f cs)=ob (evs st fr cs) (fun vs=>ob (j06 vs) (fun ps=>some (.s (.func f ps)))):=rfl
theorem jn1:j06 []=some []:=rfl
theorem jk2 {b:Nat} {l:List AV}:j06 (.s (.ptr b o)::l)=ob (j06 l) (fun r=>some ((b,o)::r)):=rfl
theorem jhv:jgf []=[]:=rfl
theorem jf4 {b:Nat} {l:List (Nat×Nat)}:jgf ((b,o)::l)=.s (.ptr b o)::jgf l:=rfl
theorem jk3 {b:Nat} {f:Nat->Nat->Option β} {g:List SV->Option β}:jcu (.s (.ptr b o)) f g=f b o:=rfl
theorem jn2 {cs:List SV} {f:Nat->Nat->Option β} {g:List SV->Option β}:jcu (.s (.cp cs)) f g=g cs:=rfl
theorem jn3 {b:Nat} {f:Nat->Nat->Option β}:jl8 (.s (.ptr b o)) f=f b o:=rfl
def jqp (v:AV):Option AV:=jbc v (some (.s (.int .i64 0))) (fun _ _ n _ _ _=>some (.s (.int .i64 (Int.ofNat n)))) (fun rows=>some (.s (.int .i64 (Int.ofNat (jbu rows))))) (some (.s (.int .i64 0)))
theorem jn4:jqp (.s .nilSlice)=some (vi 0):=rfl
theorem ji6:jqp (.s (.lst rows))=some (vi rows.length):=by
 show some (AV.s (.int .i64 (Int.ofNat (jbu rows))))=_
 rw[jam];rfl
theorem jhw {b n mc sz:Nat} {e:Bool}:jqp (.s (.slice b o n mc e sz))=some (vi n):=rfl
def jw8 (n:Int):Option AV:=if -9223372036854775808<=n/\n<=9223372036854775807 then some (vi n) else none
theorem j5y {n:Int} (h1:-9223372036854775808<=n) (h2:n<=9223372036854775807):inR .i64 n=true:=by
 cases n with
 | ofNat m=>exact(jpa m 9223372036854775807).symm▸(by have:(m:Int)<=9223372036854775807:=h2
                                                      omega)
 | negSucc m=>exact(jpa m 9223372036854775807).symm▸(by have:-9223372036854775808<=Int.negSucc m:=h1
                                                        omega)
theorem jk4 {n:Int}:jvb .i64 n=jw8 n:=by
 unfold jw8
 show oif (inR .i64 n) (some (AV.s (.int .i64 n))) none=_
 split
 .rename_i h;rw[j5y h.1 h.2];rfl
 .rename_i h
  cases e:inR .i64 n with
  | false=>rfl
  | true =>
   rcases jbv e with⟨_,a,b⟩ | ⟨e,_⟩ | ⟨e,_⟩
   .exact absurd ⟨a,b⟩ h
   .cases e
   .cases e
theorem jfh {n:Int} (h1:-9223372036854775808<=n) (h2:n<=9223372036854775807):jw8 n=some (vi n):=if_pos ⟨h1,h2⟩
def w64 (n:Int):Int:=IntKind.wrap .i64 n
theorem jbx {n:Int} (h1:-9223372036854775808<=n) (h2:n<=9223372036854775807):w64 n=n:=jgj (j5y h1 h2)
theorem jrn {n:Int}:jzn .i64 n=some (vi (w64 n)):=by
 show oif (inR .i64 n) (some (AV.s (.int .i64 n))) (some (AV.s (.int .i64 (IntKind.wrap .i64 n))))=_
 cases e:inR .i64 n with
 | true=>rw[show w64 n=n from jgj e];rfl
 | false=>rfl
variable {a b:Int}
theorem jro:jda .add (.int .i64 a) (.int .i64 b)=some (vi (w64 (a+b))):=by
 rw[←jrn];show jzn .i64 (j05 a b)=_;rw[jm8]
theorem jrp:jda .sub (.int .i64 a) (.int .i64 b)=some (vi (w64 (a - b))):=by rw[←jrn];rfl
theorem jrq:jda .mul (.int .i64 a) (.int .i64 b)=some (vi (w64 (a*b))):=by rw[←jrn];rfl
theorem j3a:jda .quo (.int .i64 a) (.int .i64 b)=if b=0 then none else jw8 (a.tdiv b):=by
 rw[←jk4]
 show oif (ieq b 0) none (jvb .i64 (a.tdiv b))=_
 rw[jaf,jbz];simp only[decide_eq_true_eq]
theorem jrr:jda .rem (.int .i64 a) (.int .i64 b)=if b=0 then none else jw8 (a.tmod b):=by
 rw[←jk4]
 show oif (ieq b 0) none (jvb .i64 (a.tmod b))=_
 rw[jaf,jbz];simp only[decide_eq_true_eq]
theorem jw9:jda .eq (.int .i64 a) (.int .i64 b)=some (vb (decide (a=b))):=by
 show some (AV.s (.bool (ieq a b)))=_;rw[jbz]
theorem jxa:jda .ne (.int .i64 a) (.int .i64 b)=some (vb (decide (a≠b))):=by
 show some (AV.s (.bool (jee (ieq a b))))=_;rw[jbz,jdj];congr 3;by_cases h:a=b<;>simp[h]
theorem jxb:jda .lt (.int .i64 a) (.int .i64 b)=some (vb (decide (a<b))):=by
 show some (AV.s (.bool (jee (ile b a))))=_;rw[jb0,jdj];congr 3;by_cases h:a<b<;>simp[h]
 omega
theorem jxc:jda .le (.int .i64 a) (.int .i64 b)=some (vb (decide (a<=b))):=by
 show some (AV.s (.bool (ile a b)))=_;rw[jb0]
theorem jxd:jda .gt (.int .i64 a) (.int .i64 b)=some (vb (decide (b<a))):=by
 show some (AV.s (.bool (jee (ile a b))))=_;rw[jb0,jdj];congr 3;by_cases h:b<a<;>simp[h]
 omega
theorem jxe:jda .ge (.int .i64 a) (.int .i64 b)=some (vb (decide (b<=a))):=by
 show some (AV.s (.bool (ile b a)))=_;rw[jb0]
theorem j3b {n:Nat} {k:IntKind} (hn:n<=63):jda .shr (.int .i64 a) (.int k (n:Int))=some (vi (a / 2 ^ n)):=by
 have hs:jzo .i64 n=true:=by
  have hI:jje .i64=true:=rfl
  unfold jzo
  simp[jaf,jpa,hn,hI]
 have e:jda .shr (.int .i64 a) (.int k (n:Int))=jpc .shr .i64 a (n:Int):=by
  show oif (Nat.beq (ikn .i64) (ikn k)) (jpc .shr .i64 a n) (oif true (jpc .shr .i64 a n) none)=_
  cases Nat.beq (ikn .i64) (ikn k)<;>rfl
 rw[e]
 cases a with
 | ofNat m =>
  show oif (jzo .i64 n) (some (AV.s (.int .i64 (Int.ofNat (Nat.div m (Nat.pow 2 n)))))) none=_
  rw[hs]
  have:Int.ofNat (Nat.div m (Nat.pow 2 n))=Int.ofNat m / 2 ^ n:=by
   show((m / 2 ^ n:Nat):Int)=(m:Int) / 2 ^ n
   rw[Int.natCast_ediv,f2n];rfl
  rw[this];rfl
 | negSucc m =>
  show oif (jzo .i64 n) (some (AV.s (.int .i64 (Int.negSucc (Nat.div m (Nat.pow 2 n)))))) none=_
  rw[hs]
  have:Int.negSucc (Nat.div m (Nat.pow 2 n))=Int.negSucc m / 2 ^ n:=by
   obtain⟨q,hq⟩:∃ q,2 ^ n=q+1:=⟨2 ^ n - 1,by have:=Nat.two_pow_pos n;omega⟩
   have h2:(2:Int) ^ n=((q+1:Nat):Int):=by rw[←hq,f2n];rfl
   have h3:Nat.pow 2 n=q+1:=hq
   rw[h2,h3];rfl
  rw[this];rfl
end
class Ok (h:Hp):Prop where
 hid:h.hid=[]
 lo:h.lo=0
 pos:1<=h.next
theorem jfi {a b:Nat} (h:a<=b):Nat.ble a b=true:=by rw[jpa];exact h
theorem j3c:Ok h0:=⟨rfl,rfl,f0c 1⟩
section
variable {h:Hp} {F:Fns} {st fr:List AV} {Q:Ex->St->Prop} {β:Type}
theorem jdm {x:AB} (k:Ok h):Ok (h.push x):=⟨k.hid,k.lo,f1l k.pos⟩
theorem jed {b:Nat} {x:Option AB} (k:Ok h):Ok (h.put b x):=⟨by rw[Hp.hid_put];exact k.hid,by rw[Hp.lo_put];exact k.lo,by rw[Hp.next_put];exact k.pos⟩
instance iPush {x:AB} [k:Ok h]:Ok (h.push x):=jdm k
instance iPut {b:Nat} {x:Option AB} [k:Ok h]:Ok (h.put b x):=jed k
theorem jbt {x:AB} {n:Nat} (k:Ok h):(h.push x).get n=if n=h.next then some x else h.get n:=by
 rw[Hp.get_eq,Hp.get_eq,Hp.hid_push,k.hid]
 have e:jac [] n=false:=rfl
 rw[e]
 show(h.tr.put (Nat.succ h.next) h.next (some x)).get n=_
 split
 .rename_i hn;subst hn;exact jap _ _ _ _ k.pos (jib _)
 .rename_i hn;exact jau _ _ _ _ n k.pos (jib _) hn
theorem jbk {b n:Nat} {x:Option AB} (k:Ok h) (hb:1<=b):(h.put b x).get n=if n=b then x else h.get n:=by
 rw[Hp.get_eq,Hp.get_eq,Hp.hid_put,k.hid,Hp.tr_put]
 have e:jac [] n=false:=rfl
 rw[e]
 show(h.tr.put (Nat.succ b) b x).get n=_
 split
 .rename_i hn;subst hn;exact jap _ _ _ _ hb (jib _)
 .rename_i hn;exact jau _ _ _ _ n hb (jib _) hn
def Hp.hide (h:Hp) (lo:Nat) (hid:List (Nat×Nat)):Hp:=.mk h.next h.tr lo hid
theorem jhx {n:Nat}:jac [] n=false:=by cases n<;>rfl
theorem jf5 {a b n:Nat} {l:List (Nat×Nat)}:jac ((a,b)::l) n=if a<=n/\n<b then true else jac l n:=by
 show oif (Nat.ble a n) (oif (Nat.ble (n+1) b) true (jac l n)) (jac l n)=_
 simp only[jaf,jpa]
 by_cases h1:a<=n
 .by_cases h2:n+1<=b
  .rw [if_pos h1,if_pos h2,if_pos ⟨h1,h2⟩]
  .rw [if_pos h1,if_neg h2,if_neg (fun h=>h2 h.2)]
 .rw [if_neg h1,if_neg (fun h=>h1 h.1)]
theorem j0n {n:Nat} {hid:List (Nat×Nat)} (k:Ok h):(h.hide lo hid).get n=if jac hid n=true then none else h.get n:=by
 rw[Hp.get_eq,Hp.get_eq,k.hid];rfl
theorem juv {cs:List SV} {ty:TypeId} {f:Nat->Hp->Option β} (k:Ok h):nw h cs ty f=f h.next (h.push (.arr cs ty)):=by
 cases h with
 | mk n t lo hid =>
  obtain rfl:hid=[]:=k.hid
  rfl
def rdB (x:Option AB) (off n:Nat):Option (List SV):=ob x (fun x=>AB.casesOn (motive:=fun _=>Option (List SV)) x (fun cs _=>ja1 n (jbf off cs)) (fun _ _=>none))
theorem jdn {cs:List SV} {ty:TypeId} {off n:Nat}:rdB (some (.arr cs ty)) off n=ja1 n (jbf off cs):=rfl
def wrB (h:Hp) (b:Nat) (x:Option AB) (off:Nat) (xs:List SV):Option Hp:=ob x (fun x=>AB.casesOn (motive:=fun _=>Option Hp) x (fun cs ty=>ob (jbg off xs cs) (fun cs'=>some (h.put b (some (.arr cs' ty))))) (fun _ _=>none))
theorem j5z {b off:Nat} (k:Ok h):wr h b off xs=wrB h b (h.get b) off xs:=by
 show oif (Nat.ble h.lo b) _ none=_
 rw[k.lo];rfl
theorem jrs {b:Nat} {cs:List SV} {ty:TypeId} {off:Nat}:wrB h b (some (.arr cs ty)) off xs=ob (jbg off xs cs) (fun cs'=>some (h.put b (some (.arr cs' ty)))):=rfl
def jiw (h:Hp) (n:Nat) (agg:Bool) (v:AV):Option AV:=jcu v (fun b off=>ob (rd h b off n) (fun cs=>jc9 agg cs)) (fun cs=>ob (ja1 n cs) (fun cs=>jc9 agg cs))
theorem j3d {α γ:Type} {x:Option α} {f:α->Option β} {g:β->Option γ}:ob (ob x f) g=ob x (fun a=>ob (f a) g):=by cases x<;>rfl
theorem jtr {n:Nat} {x:Od}:jb7 st fr h (.load n agg x)=ob (ev st fr x) (fun v=>ob (jiw h n agg v) (fun v=>ok v h)):=by
 show ob (ev st fr x) (fun v=>jcu v (fun b off=>ob (rd h b off n) (fun cs=>ob (jc9 agg cs) (fun v=>ok v h))) (fun cs=>ob (ja1 n cs) (fun cs=>ob (jc9 agg cs) (fun v=>ok v h))))=_
 congr 1
 funext v
 cases v with
 | s v=>cases v<;>first | rfl | (show ob _ _=ob (ob _ _) _;rw[j3d])
 | _=>rfl
def jxf (h:Hp) (n:Nat) (p v:AV):R:=jl8 p (fun b off=>cel v (fun cs=>oif (Nat.beq (jbu cs) n) (ob (wr h b off cs) (fun h=>ok .undef h)) none))
theorem j0o {b:Nat} {v:SV} (k:Ok h):jxf h 1 (.s (.ptr b o)) (.s v)=ob (wrB h b (h.get b) o [v]) (fun h=>ok .undef h):=by
 show ob (wr h b o [v]) _=_
 rw[j5z k]
theorem juw {n b:Nat} {cs:List SV} (k:Ok h) (hn:cs.length=n):jxf h n (.s (.ptr b o)) (.agg cs)=ob (wrB h b (h.get b) o cs) (fun h=>ok .undef h):=by
 show oif (Nat.beq (jbu cs) n) (ob (wr h b o cs) _) none=_
 rw[j5z k,jam,hn,f1g];rfl
theorem j3e {e:TypeId} (k:Ok h):jb7 st fr h (.new e z)=some (.s (.ptr h.next 0),h.push (.arr z e)):=by
 show nw h z e (fun n h=>ok (.s (.ptr n 0)) h)=_
 rw[juv k];rfl
theorem j3f {e:TypeId} {x:Od} (k:Ok h):jb7 st fr h (.box e x)=ob (ev st fr x) (fun v=>cel v (fun cs=>some (.s (.ptr h.next 0),h.push (.arr cs e)))):=by
 show ob (ev st fr x) (fun v=>cel v (fun cs=>nw h cs e (fun n h=>ok (.s (.ptr n 0)) h)))=_
 congr 1;funext v;congr 1;funext cs;rw[juv k];rfl
theorem jux {e:TypeId} {size:Nat} {len:Nat} {ps:List (Nat×Nat×Od)} (k:Ok h):jb7 st fr h (.bslice e size z len ps)=ob (fill st fr ps z) (fun cs=>some (.s (.slice h.next 0 len len true size),h.push (.arr cs e))):=by
 show ob (fill st fr ps z) (fun cs=>nw h cs e (fun n h=>ok (.s (.slice n 0 len len true size)) h))=_
 congr 1;funext cs;rw[juv k];rfl
def j50 (h:Hp) (e:TypeId) (size bytes:Nat) (z:List SV) (l c:AV):R:=j1a l (fun m=>j1a c (fun k=>oif (Nat.ble m k) (oif (Nat.ble (Nat.mul bytes k) 1000000000) (oif (Nat.ble k 1000000000) (nw h (rep z k) e (fun b h=>ok (.s (.slice b 0 m k true size)) h)) none) none) none))
theorem jxg {e:TypeId} {size:Nat} {m:Nat} (k:Ok h) (h1:bytes*m<=1000000000) (h2:m<=1000000000):j50 h e size bytes z (vi m) (vi m)=some (.s (.slice h.next 0 m m true size),h.push (.arr (rep z m) e)):=by
 show oif (Nat.ble m m) (oif (Nat.ble (Nat.mul bytes m) 1000000000) (oif (Nat.ble m 1000000000) (nw h (rep z m) e _) none) none) none=_
 rw[juv k,jfi (f0c m),jfi h2,show Nat.ble (Nat.mul bytes m) 1000000000=true from jfi h1];rfl
def jts (size:Nat) (v w:AV):Option AV:=jbc v none (fun b off len _ _ _=>jgg w len (fun m=>some (.s (.ptr b (Nat.add off (Nat.mul m size))))))
 (fun rows=>jgg w (jbu rows) (fun m=>ob (jcl rows m) (fun row=>oif (Nat.beq (jbu row) size) (some (.s (.cp row))) none))) none
theorem je2 {m n:Nat} {f:Nat->Option β} (hm:m<n):jgg (vi (m:Int)) n f=f m:=by
 show oif (Nat.ble (Nat.succ m) n) (f m) none=_
 rw[jfi (show Nat.succ m<=n from hm)];rfl
theorem jcd {size b off len mc sz m:Nat} {ex:Bool} (hm:m<len):jts size (.s (.slice b off len mc ex sz)) (vi (m:Int))=some (.s (.ptr b (off+m*size))):=je2 (f:=fun m=>some (AV.s (.ptr b (Nat.add off (Nat.mul m size))))) hm
theorem jf6 {size b off len mc sz:Nat} {ex:Bool} (hm:0<len):jts size (.s (.slice b off len mc ex sz)) (vi 0)=some (.s (.ptr b off)):=by
 have:=je2 (f:=fun m=>some (AV.s (.ptr b (Nat.add off (Nat.mul m size))))) hm
 refine this.trans ?_
 show some (AV.s (.ptr b (off+0*size)))=_
 rw[f1m,f1j]
theorem j0p {size m:Nat} (hr:rows[m]?=some row) (hl:row.length=size):jts size (.s (.lst rows)) (vi (m:Int))=some (.s (.cp row)):=by
 have hm:m<rows.length:=by
  rcases f0e m rows.length with h | h
  .exact h
  .rw [f0o h] at hr;cases hr
 have:=je2 (f:=fun m=>ob (jcl rows m) (fun row=>oif (Nat.beq (jbu row) size) (some (AV.s (.cp row))) none)) (show m<jbu rows by rw[jam];exact hm)
 refine this.trans ?_
 rw[jbj,hr]
 show oif (Nat.beq (jbu row) size) _ none=_
 rw[jam,hl,f1g];rfl
def j1n (n size:Nat) (v w:AV):Option AV:=jcu v (fun b off=>jgg w n (fun m=>some (.s (.ptr b (Nat.add off (Nat.mul m size)))))) (fun cs=>jgg w n (fun m=>some (.s (.cp (jbf (Nat.mul m size) cs)))))
theorem jg0 {n size b off m:Nat} (hm:m<n):j1n n size (.s (.ptr b off)) (vi (m:Int))=some (.s (.ptr b (off+m*size))):=je2 (f:=fun m=>some (AV.s (.ptr b (Nat.add off (Nat.mul m size))))) hm
theorem jk5 {n size m:Nat} {cs:List SV} (hm:m<n):j1n n size (.s (.cp cs)) (vi (m:Int))=some (.s (.cp (jbf (m*size) cs))):=je2 (f:=fun m=>some (AV.s (.cp (jbf (Nat.mul m size) cs)))) hm
def j8i (h:Hp) (e:TypeId) (size bytes b n m:Nat) (x:Option AB) (new:List SV):R :=
 jl0 bytes (Nat.add n m) (ob x (fun x=>AB.casesOn (motive:=fun _=>R) x (fun cs ty =>
  ob (ja1 (Nat.mul n size) (jbf 0 cs)) (fun old=>(oif (Nat.ble h.lo b) (oif (Nat.beq ty e) (nw (h.put b none) (jfk old new) e (fun k h=>ok (.s (.slice k 0 (Nat.add n m) (Nat.add n m) false size)) h)) none) none))) (fun _ _=>none)))
def jzm (h:Hp) (e:TypeId) (size bytes:Nat) (v w:AV):R:=jbc w (jzi v (ok v h)) (fun b' off' m _ _ _=>ob (rd h b' off' (Nat.mul m size)) (fun new=>jt8 h e size bytes m v new))
 (fun rows=>ob (jt7 size rows) (fun new=>jt8 h e size bytes (jbu rows) v new)) (jzi v (ok v h))
theorem jl5 {e:TypeId} {size m:Nat}:jzm h e size bytes (.s .nilSlice) (.s (.slice b' o' m mc' ex' sz'))=ob (rdB (h.get b') o' (m*size)) (fun new=>Nat.casesOn (motive:=fun _=>R) m (some (.s .nilSlice,h)) (fun _=>jl0 bytes m (nw h new e (fun k h=>ok (.s (.slice k 0 m m false size)) h)))):=rfl
theorem jtt {n:Nat} {x:R} (h1:n*bytes<=1000000000) (h2:n<=1000000000):jl0 bytes n x=x:=by
 show oif (Nat.ble (Nat.mul n bytes) 1000000000) (oif (Nat.ble n 1000000000) x none) none=_
 rw[show Nat.ble (Nat.mul n bytes) 1000000000=true from jfi h1,jfi h2];rfl
theorem jix {e:TypeId} {size b n m:Nat} (hm:1<=m):jzm h e size bytes (.s (.slice b 0 n n false size)) (.s (.slice b' o' m mc' ex' sz'))=ob (rdB (h.get b') o' (m*size)) (fun new=>j8i h e size bytes b n m (h.get b) new):=by
 show ob (rdB (h.get b') o' (m*size)) (fun new=>oif (Nat.beq size size) (oif (Nat.ble (Nat.add n m) n) _ (jl0 bytes (Nat.add n m) (jm5 h e size b 0 n m false new))) none)=_
 congr 1
 funext new
 have e1:Nat.ble (Nat.add n m) n=false:=by
  cases e:Nat.ble (Nat.add n m) n with
  | false=>rfl
  | true=>rw[jpa] at e;have:n+m<=n:=e;omega
 rw[f1g]
 show oif (Nat.ble (Nat.add n m) n) _ _=_
 rw[e1]
 rfl
theorem j3g {e:TypeId} {size b n m:Nat} {cs new:List SV} (k:Ok h) (hc:cs.length=n*size) (h1:(n+m)*bytes<=1000000000) (h2:n+m<=1000000000) :
 j8i h e size bytes b n m (some (.arr cs e)) new=some (.s (.slice h.next 0 (n+m) (n+m) false size),(h.put b none).push (.arr (cs++new) e)):=by
 show jl0 bytes (n+m) (ob (ja1 (n*size) cs) (fun old=>oif (Nat.ble h.lo b) (oif (Nat.beq e e) (nw (h.put b none) (jfk old new) e _) none) none))=_
 rw[jtt h1 h2,(jak _).2 ⟨f1t hc.symm,rfl⟩,←hc,f2m]
 show oif (Nat.ble h.lo b) (oif (Nat.beq e e) (nw (h.put b none) (jfk cs new) e _) none) none=_
 rw[k.lo,f1g,juv (jed k),jcv,Hp.next_put]
 rfl
def j87 (v:AV):Option (Bool×List SV):=AV.casesOn (motive:=fun _=>Option (Bool×List SV)) v (fun s=>some (false,[s])) (fun l=>some (true,l)) (fun _=>none) none none
theorem jhy:jdq fr h []=some []:=rfl
theorem jc2 {r:IR} {l:List IR}:jdq fr h (r::l)=ob (jis fr h r) (fun v=>ob (jdq fr h l) (fun x=>some (v::x))):=rfl
theorem jhz:jbi (.mk fr h) []=some (.tup [],h):=rfl
theorem juy {r:IR}:jbi (.mk fr h) [r]=ob (jis fr h r) (fun p=>ob (jc9 p.1 p.2) (fun v=>some (v,h))):=by
 show ob (ob (jis fr h r) (fun v=>ob (some []) (fun x=>some (v::x)))) (fun vs=>List.casesOn (motive:=fun _=>R) vs (ok (.tup []) h) (fun p r=>List.casesOn (motive:=fun _=>R) r (ob (jc9 p.1 p.2) (fun v=>ok v h)) (fun _ _=>ok (.tup vs) h)))=_
 cases jis fr h r<;>rfl
theorem juz {r r':IR} {l:List IR}:jbi (.mk fr h) (r::r'::l)=ob (jdq fr h (r::r'::l)) (fun vs=>some (.tup vs,h)):=by
 show ob (jdq fr h (r::r'::l)) (fun vs=>List.casesOn (motive:=fun _=>R) vs (ok (.tup []) h) (fun p r=>List.casesOn (motive:=fun _=>R) r (ob (jc9 p.1 p.2) (fun v=>ok v h)) (fun _ _=>ok (.tup vs) h)))=_
 rw[jc2,jc2]
 cases jis fr h r with
 | none=>rfl
 | some a=>cases jis fr h r' with
  | none=>rfl
  | some b=>cases jdq fr h l<;>rfl
theorem j3h {v:AV}:ok v h=some (v,h):=rfl
theorem jrt {es:List Ent} {hid:List (Nat×Nat)}:sel es [] hid=some hid:=rfl
theorem jn5 {es:List Ent} {hid:List (Nat×Nat)}:sel es (j::js) hid=ob (jcl es j) (fun e=>ob (sel es js hid) (fun l=>Ent.casesOn (motive:=fun _=>Option (List (Nat×Nat))) e (fun iv _=>some (iv++l)))):=by
 show ob (jcl es j) (fun e=>ob (sel es js hid) (fun l=>Ent.casesOn (motive:=fun _=>Option (List (Nat×Nat))) e (fun iv _=>some (jfk iv l))))=_
 simp only[jcv]
def fpV:AV->List Nat
 | .s (.ptr b _)=>[b]
 | _=>[]
theorem jru {b:Nat}:fpV (.s (.ptr b o))=[b]:=rfl
theorem jxh {cs:List SV}:fpV (.s (.cp cs))=[]:=rfl
theorem jqc {es:List Ent} {dst:Option Nat} {n:Nat} {x:Od} {l:List (IOper×Option (List Nat))}:WD F ((.mk dst (.a (.load n agg x)) none,some js)::l) st es fr h Q=obP (sel es js h.hid) (fun hid'=>obP (ev st fr x) (fun p=>obP (jiw (h.hide h.next hid') n agg p) (fun v=>WD F l (v::st) (.mk [] (some (fpV p))::es) (jba fr dst v) h Q))):=by
 cases h with
 | mk k t lo hid =>
 rw[jw1 (x:=ob (sel es js hid) (fun hid'=>ob (ev st fr x) (fun p=>ob (jiw (.mk k t k hid') n agg p) (fun v=>some (DR.mk v (.mk k t lo hid) (.mk [] (some (fpV p)))))))) (fun cl=>?_)]
 .refine propext ⟨fun⟨p,h1,h2⟩=>?_,fun⟨hid',h0,q,h1,v,h2,h3⟩=>⟨.mk v (.mk k t lo hid) (.mk [] (some (fpV q))),jaa.2 ⟨hid',h0,jaa.2 ⟨q,h1,jaa.2 ⟨v,h2,rfl⟩⟩⟩,h3⟩⟩
  obtain⟨hid',h3,h4⟩:=jaa.1 h1
  obtain⟨q,h5,h6⟩:=jaa.1 h4
  obtain⟨v,h7,h8⟩:=jaa.1 h6
  cases h8
  exact⟨hid',h3,q,h5,v,h7,h2⟩
 .show jh9 cl st fr es (.mk k t lo hid) (.a (.load n agg x)) js=_
  show ob (sel es js hid) (fun hid'=>Cls.casesOn (motive:=fun _=>Option DR) (jpg (ob (ev st fr x) (fun v=>jcu v (fun b _=>some (Cls.load b)) (fun _=>some .quiet))) (fun c=>c))
   (ji0 cl st fr k t lo k hid hid' (.a (.load n agg x)) (fun n'=>.mk [(k,n')] (some [])))
   (fun x'=>ji0 cl st fr k t lo k hid hid' (.a (.load n agg x)) (fun _=>.mk [] (some [x'])))
   (fun b=>oif (jgi es js b) (oif (Nat.ble lo b) (ob (Hp.get (.mk k t lo hid') b) (fun _=>ji0 cl st fr k t lo lo hid hid' (.a (.load n agg x)) (fun n'=>.mk [(b,Nat.succ b),(k,n')] none))) none) none)
   (ji0 cl st fr k t lo k hid hid' (.a (.load n agg x)) (fun _=>.mk [] (some [])))
   (ji0 cl st fr k t lo k hid hid' (.a (.load n agg x)) (fun n'=>.mk [(k,n')] none)))=_
  congr 1
  funext hid'
  have key:∀ e:Nat->Ent,ji0 cl st fr k t lo k hid hid' (.a (.load n agg x)) e=ob (ev st fr x) (fun p=>ob (jiw (.mk k t k hid') n agg p) (fun v=>some (DR.mk v (.mk k t lo hid) (e k)))):=fun e=>by
   show ob (aop cl st fr (.mk k t k hid') (.load n agg x)) _=_
   rw[jf1 (show AO.calls (.load n agg x)=false from rfl),jtr]
   cases ev st fr x with
   | none=>rfl
   | some p =>
    show ob (ob (jiw (.mk k t k hid') n agg p) _) _=ob (jiw (.mk k t k hid') n agg p) _
    cases jiw (.mk k t k hid') n agg p<;>rfl
  have k1:=key (fun n'=>.mk [(k,n')] none)
  have k3:=key (fun _=>.mk [] (some []))
  have k2:=fun b=>key (fun _=>.mk [] (some [b]))
  cases hx:ev st fr x with
  | none =>
   rw[hx] at k1
   exact k1
  | some p =>
   rw[hx] at k1 k3
   simp only[hx] at k2
   cases p with
   | s p =>
    cases p with
    | ptr b o=>exact k2 b
    | cp cs=>exact k3
    | _=>exact k1
   | _=>exact k1
theorem jl6 {es:List Ent} {dst:Option Nat} {e:TypeId} {size:Nat} {len:Nat} {ps:List (Nat×Nat×Od)} {l:List (IOper×Option (List Nat))}:WD F ((.mk dst (.a (.bslice e size z len ps)) none,some js)::l) st es fr h Q=obP (sel es js h.hid) (fun hid'=>obP (fill st fr ps z) (fun cs=>jac hid' h.next=false/\WD F l (.s (.slice h.next 0 len len true size)::st) (.mk [(h.next,h.next+1)] (some [])::es) (jba fr dst (.s (.slice h.next 0 len len true size))) (h.push (.arr cs e)) Q)):=by
 cases h with
 | mk k t lo hid =>
 rw[jw1 (x:=ob (sel es js hid) (fun hid'=>ob (fill st fr ps z) (fun cs=>oif (jac hid' k) none (some (DR.mk (.s (.slice k 0 len len true size)) ((Hp.mk k t lo hid).push (.arr cs e)) (.mk [(k,k+1)] (some []))))))) (fun cl=>?_)]
 .refine propext ⟨fun⟨p,h1,h2⟩=>?_,fun⟨hid',h0,cs,h1,h2,h3⟩=>⟨DR.mk (.s (.slice k 0 len len true size)) ((Hp.mk k t lo hid).push (.arr cs e)) (.mk [(k,k+1)] (some [])),jaa.2 ⟨hid',h0,jaa.2 ⟨cs,h1,?_⟩⟩,h3⟩⟩
  .obtain ⟨hid',h3,h4⟩:=jaa.1 h1
   obtain⟨cs,h5,h6⟩:=jaa.1 h4
   rw[jaf] at h6
   split at h6
   .cases h6
   .rename_i h7
    cases h6
    exact⟨hid',h3,cs,h5,Bool.eq_false_iff.2 h7,h2⟩
  .have h2':jac hid' k=false:=h2
   rw[h2'];rfl
 .show jh9 cl st fr es (.mk k t lo hid) (.a (.bslice e size z len ps)) js=_
  show ob (sel es js hid) (fun hid'=>ob (ob (fill st fr ps z) (fun cs=>oif (jac hid' k) none (ok (.s (.slice k 0 len len true size)) (Hp.mk (Nat.succ k) (t.put (Nat.succ k) k (some (.arr cs e))) k hid')))) (fun p=>Hp.casesOn (motive:=fun _=>Option DR) p.2 (fun n' t' _ _=>some (.mk p.1 (.mk n' t' lo hid) (.mk [(k,n')] (some []))))))=_
  congr 1
  funext hid'
  cases fill st fr ps z with
  | none=>rfl
  | some cs =>
   show ob (oif (jac hid' k) none _) _=oif (jac hid' k) none _
   cases jac hid' k<;>rfl
end
section
variable {F:Fns} {s:St} {st fr:List AV} {h h':Hp} {Q:Ex->St->Prop} {l:List IOper} {dst:Option Nat} {v w:AV} {m:List (IOper×Option (List Nat))} {es:List Ent}
def zpO (F:Fns) (x:Option AV) (dst:Option Nat) (l:List IOper) (st fr:List AV) (h:Hp) (Q:Ex->St->Prop):Prop:=obP x (fun v=>WO F l (v::st) (jba fr dst v) h Q)
theorem jn6:zpO F (some v) dst l st fr h Q=WO F l (v::st) (jba fr dst v) h Q:=ja6
def zmO (F:Fns) (x:R) (dst:Option Nat) (l:List IOper) (st fr:List AV) (Q:Ex->St->Prop):Prop:=obP x (fun p=>WO F l (p.1::st) (jba fr dst p.1) p.2 Q)
theorem jn7:zmO F (some (v,h)) dst l st fr Q=WO F l (v::st) (jba fr dst v) h Q:=ja6
def j3i (F:Fns) (dst:Option Nat) (l:List IOper) (st fr:List AV) (Q:Ex->St->Prop) (v:AV) (h:Hp):Prop:=WO F l (v::st) (jba fr dst v) h Q
theorem jn8:j3i F dst l st fr Q v h=WO F l (v::st) (jba fr dst v) h Q:=rfl
def zkO (F:Fns) (x:Option (List AV)) (f:FuncId) (dst:Option Nat) (l:List IOper) (st fr:List AV) (h:Hp) (Q:Ex->St->Prop):Prop:=obP x (fun vs=>WC F f vs h (j3i F dst l st fr Q))
theorem jn9 {f:FuncId}:zkO F (some vs) f dst l st fr h Q=WC F f vs h (j3i F dst l st fr Q):=ja6
def zgO (F:Fns) (x:Option AV) (t:Bool) (dst:Option Nat) (op:IOp) (l:List IOper) (st fr:List AV) (h:Hp) (Q:Ex->St->Prop):Prop:=gP x t (WO F (.mk dst op none::l) st fr h Q) (WO F l (.undef::st) (jba fr dst .undef) h Q)
theorem joa {b:Bool} {op:IOp}:zgO F (some (.s (.bool b))) t dst op l st fr h Q=if b=t then WO F (.mk dst op none::l) st fr h Q else WO F l (.undef::st) (jba fr dst .undef) h Q:=jwz
theorem jk6 {op:IOp}:zgO F (some .undef) t dst op l st fr h Q=WO F l (.undef::st) (jba fr dst .undef) h Q:=jtq
def zcO (F:Fns) (x:Option AV) (a b:IC) (fr:List AV) (h:Hp) (Q:Ex->St->Prop):Prop:=j7f x (W F a (.mk fr h) Q) (W F b (.mk fr h) Q)
theorem job {b:Bool} {x y:IC}:zcO F (some (.s (.bool b))) x y fr h Q=if b=true then W F x (.mk fr h) Q else W F y (.mk fr h) Q:=jwu
theorem jrv {c:Od} {x y:IC}:W F (.cond c x y) (.mk fr h) Q=zcO F (ev [] fr c) x y fr h Q:=j5v
theorem jrw {o:PO}:WO F (.mk dst (.p o) none::l) st fr h Q=zpO F (pop st fr o) dst l st fr h Q:=j23
theorem jrx {f:FuncId} {as:List Od}:WO F (.mk dst (.a (.call f as)) none::l) st fr h Q=zkO F (evs st fr as) f dst l st fr h Q:=j24
theorem joc {op:IOp}:WO F (.mk dst op (some (i,t))::l) st fr h Q=zgO F (jcl st i) t dst op l st fr h Q:=j0i
def zpD (F:Fns) (x:Option AV) (e:Ent) (dst:Option Nat) (m:List (IOper×Option (List Nat))) (st:List AV) (es:List Ent) (fr:List AV) (h:Hp) (Q:Ex->St->Prop):Prop:=obP x (fun v=>WD F m (v::st) (e::es) (jba fr dst v) h Q)
theorem jod {e:Ent}:zpD F (some v) e dst m st es fr h Q=WD F m (v::st) (e::es) (jba fr dst v) h Q:=ja6
def zmD (F:Fns) (x:R) (dst:Option Nat) (m:List (IOper×Option (List Nat))) (st:List AV) (es:List Ent) (fr:List AV) (Q:Ex->St->Prop):Prop:=obP x (fun p=>WD F m (p.1::st) (.mk [] (some [])::es) (jba fr dst p.1) p.2 Q)
theorem joe:zmD F (some (v,h)) dst m st es fr Q=WD F m (v::st) (.mk [] (some [])::es) (jba fr dst v) h Q:=ja6
def j3j (F:Fns) (dst:Option Nat) (m:List (IOper×Option (List Nat))) (st:List AV) (es:List Ent) (fr:List AV) (Q:Ex->St->Prop) (v:AV) (h:Hp):Prop:=WD F m (v::st) (.mk [] (some [])::es) (jba fr dst v) h Q
theorem jof:j3j F dst m st es fr Q v h=WD F m (v::st) (.mk [] (some [])::es) (jba fr dst v) h Q:=rfl
def zkD (F:Fns) (x:Option (List AV)) (f:FuncId) (dst:Option Nat) (m:List (IOper×Option (List Nat))) (st:List AV) (es:List Ent) (fr:List AV) (h:Hp) (Q:Ex->St->Prop):Prop:=obP x (fun vs=>WC F f vs h (j3j F dst m st es fr Q))
theorem jog {f:FuncId}:zkD F (some vs) f dst m st es fr h Q=WC F f vs h (j3j F dst m st es fr Q):=ja6
def zgD (F:Fns) (x:Option AV) (t:Bool) (dst:Option Nat) (op:IOp) (o:Option (List Nat)) (m:List (IOper×Option (List Nat))) (st:List AV) (es:List Ent) (fr:List AV) (h:Hp) (Q:Ex->St->Prop):Prop:=gP x t (WD F ((.mk dst op none,o)::m) st es fr h Q) (WD F m (.undef::st) (.mk [] (some [])::es) (jba fr dst .undef) h Q)
theorem joh {b:Bool} {op:IOp} {o:Option (List Nat)}:zgD F (some (.s (.bool b))) t dst op o m st es fr h Q=if b=t then WD F ((.mk dst op none,o)::m) st es fr h Q else WD F m (.undef::st) (.mk [] (some [])::es) (jba fr dst .undef) h Q:=jwz
theorem jk7 {op:IOp} {o:Option (List Nat)}:zgD F (some .undef) t dst op o m st es fr h Q=WD F m (.undef::st) (.mk [] (some [])::es) (jba fr dst .undef) h Q:=jtq
theorem jry {o:PO}:WD F ((.mk dst (.p o) none,none)::m) st es fr h Q=zpD F (pop st fr o) (.mk [] (some [])) dst m st es fr h Q:=j25
theorem jrz {f:FuncId} {as:List Od}:WD F ((.mk dst (.a (.call f as)) none,none)::m) st es fr h Q=zkD F (evs st fr as) f dst m st es fr h Q:=j26
theorem joi {op:IOp} {o:Option (List Nat)}:WD F ((.mk dst op (some (i,t)),o)::m) st es fr h Q=zgD F (jcl st i) t dst op o m st es fr h Q:=j0j
def j8j (F:Fns) (x:Option (List (Nat×Nat))) (o:Option AV) (dst:Option Nat) (m:List (IOper×Option (List Nat))) (st:List AV) (es:List Ent) (fr:List AV) (h:Hp) (Q:Ex->St->Prop):Prop:=obP x (fun _=>zpD F o (.mk [(h.next,h.next)] (some [])) dst m st es fr h Q)
theorem jk8 {x:List (Nat×Nat)} {o:Option AV}:j8j F (some x) o dst m st es fr h Q=zpD F o (.mk [(h.next,h.next)] (some [])) dst m st es fr h Q:=ja6
theorem je3 {o:PO}:WD F ((.mk dst (.p o) none,some js)::m) st es fr h Q=j8j F (sel es js h.hid) (pop st fr o) dst m st es fr h Q:=jqa
def j7m (F:Fns) (x:Option (List (Nat×Nat))) (n:Nat) (agg:Bool) (p:Option AV) (dst:Option Nat) (m:List (IOper×Option (List Nat))) (st:List AV) (es:List Ent) (fr:List AV) (h:Hp) (Q:Ex->St->Prop):Prop:=obP x (fun hid'=>obP p (fun p=>zpD F (jiw (h.hide h.next hid') n agg p) (.mk [] (some (fpV p))) dst m st es fr h Q))
theorem jk9 {x:List (Nat×Nat)} {n:Nat}:j7m F (some x) n agg (some w) dst m st es fr h Q=zpD F (jiw (h.hide h.next x) n agg w) (.mk [] (some (fpV w))) dst m st es fr h Q:=by
 unfold j7m;rw[ja6,ja6]
theorem je4 {n:Nat} {x:Od}:WD F ((.mk dst (.a (.load n agg x)) none,some js)::m) st es fr h Q=j7m F (sel es js h.hid) n agg (ev st fr x) dst m st es fr h Q:=jqc
def j6p (F:Fns) (x:Option (List (Nat×Nat))) (cs:Option (List SV)) (e:TypeId) (size len:Nat) (dst:Option Nat) (m:List (IOper×Option (List Nat))) (st:List AV) (es:List Ent) (fr:List AV) (h:Hp) (Q:Ex->St->Prop):Prop:=obP x (fun hid'=>obP cs (fun cs=>jac hid' h.next=false/\WD F m (.s (.slice h.next 0 len len true size)::st) (.mk [(h.next,h.next+1)] (some [])::es) (jba fr dst (.s (.slice h.next 0 len len true size))) (h.push (.arr cs e)) Q))
theorem jg1 {x:List (Nat×Nat)} {cs:List SV} {e:TypeId} {size len:Nat} (hx:jac x h.next=false):j6p F (some x) (some cs) e size len dst m st es fr h Q=WD F m (.s (.slice h.next 0 len len true size)::st) (.mk [(h.next,h.next+1)] (some [])::es) (jba fr dst (.s (.slice h.next 0 len len true size))) (h.push (.arr cs e)) Q:=by
 unfold j6p;rw[ja6,ja6];exact propext ⟨fun h=>h.2,fun h=>⟨hx,h⟩⟩
theorem jr0 {cs:List SV} {e:TypeId} {size len:Nat}:j6p F (some []) (some cs) e size len dst m st es fr h Q=WD F m (.s (.slice h.next 0 len len true size)::st) (.mk [(h.next,h.next+1)] (some [])::es) (jba fr dst (.s (.slice h.next 0 len len true size))) (h.push (.arr cs e)) Q:=jg1 rfl
theorem jdo {e:TypeId} {size:Nat} {len:Nat} {ps:List (Nat×Nat×Od)}:WD F ((.mk dst (.a (.bslice e size z len ps)) none,some js)::m) st es fr h Q=j6p F (sel es js h.hid) (fill st fr ps z) e size len dst m st es fr h Q:=jl6
def j88 (F:Fns) (x:Option (List (Nat×Nat))) (u:AV) (dst:Option Nat) (m:List (IOper×Option (List Nat))) (st:List AV) (es:List Ent) (fr:List AV) (h:Hp) (Q:Ex->St->Prop):Prop:=obP x (fun _=>WD F m (u::st) (.mk [(h.next,h.next)] none::es) (jba fr dst u) h Q)
theorem jla {x:List (Nat×Nat)} {u:AV}:j88 F (some x) u dst m st es fr h Q=WD F m (u::st) (.mk [(h.next,h.next)] none::es) (jba fr dst u) h Q:=ja6
theorem jxi {e:TypeId}:WO F (.mk dst (.a (.new e z)) none::l) st fr h Q=zmO F (jb7 st fr h (.new e z)) dst l st fr Q:=jdg rfl
theorem jxj {e:TypeId}:WD F ((.mk dst (.a (.new e z)) none,none)::m) st es fr h Q=zmD F (jb7 st fr h (.new e z)) dst m st es fr Q:=jdh rfl
theorem jxk {e:TypeId} {x:Od}:WO F (.mk dst (.a (.box e x)) none::l) st fr h Q=zmO F (jb7 st fr h (.box e x)) dst l st fr Q:=jdg rfl
theorem jxl {e:TypeId} {x:Od}:WD F ((.mk dst (.a (.box e x)) none,none)::m) st es fr h Q=zmD F (jb7 st fr h (.box e x)) dst m st es fr Q:=jdh rfl
theorem jlb {e:TypeId} {size:Nat} {len:Nat} {ps:List (Nat×Nat×Od)}:WO F (.mk dst (.a (.bslice e size z len ps)) none::l) st fr h Q=zmO F (jb7 st fr h (.bslice e size z len ps)) dst l st fr Q:=jdg rfl
theorem jlc {e:TypeId} {size:Nat} {len:Nat} {ps:List (Nat×Nat×Od)}:WD F ((.mk dst (.a (.bslice e size z len ps)) none,none)::m) st es fr h Q=zmD F (jb7 st fr h (.bslice e size z len ps)) dst m st es fr Q:=jdh rfl
theorem jh0 {e:TypeId} {size:Nat} {x y:Od}:WO F (.mk dst (.a (.mkslice e size bytes z x y)) none::l) st fr h Q=zmO F (jb7 st fr h (.mkslice e size bytes z x y)) dst l st fr Q:=jdg rfl
theorem jh1 {e:TypeId} {size:Nat} {x y:Od}:WD F ((.mk dst (.a (.mkslice e size bytes z x y)) none,none)::m) st es fr h Q=zmD F (jb7 st fr h (.mkslice e size bytes z x y)) dst m st es fr Q:=jdh rfl
theorem jr1 {n:Nat} {x:Od}:WO F (.mk dst (.a (.load n agg x)) none::l) st fr h Q=zmO F (jb7 st fr h (.load n agg x)) dst l st fr Q:=jdg rfl
theorem jr2 {n:Nat} {x:Od}:WD F ((.mk dst (.a (.load n agg x)) none,none)::m) st es fr h Q=zmD F (jb7 st fr h (.load n agg x)) dst m st es fr Q:=jdh rfl
theorem joj {n:Nat} {x y:Od}:WO F (.mk dst (.a (.store n x y)) none::l) st fr h Q=zmO F (jb7 st fr h (.store n x y)) dst l st fr Q:=jdg rfl
theorem jok {n:Nat} {x y:Od}:WD F ((.mk dst (.a (.store n x y)) none,none)::m) st es fr h Q=zmD F (jb7 st fr h (.store n x y)) dst m st es fr Q:=jdh rfl
theorem jxm {e:TypeId} {size:Nat} {x y:Od}:WO F (.mk dst (.a (.app e size bytes x y)) none::l) st fr h Q=zmO F (jb7 st fr h (.app e size bytes x y)) dst l st fr Q:=jdg rfl
theorem jxn {e:TypeId} {size:Nat} {x y:Od}:WD F ((.mk dst (.a (.app e size bytes x y)) none,none)::m) st es fr h Q=zmD F (jb7 st fr h (.app e size bytes x y)) dst m st es fr Q:=jdh rfl
theorem jr3 {size:Nat} {x y:Od}:WO F (.mk dst (.a (.copy size x y)) none::l) st fr h Q=zmO F (jb7 st fr h (.copy size x y)) dst l st fr Q:=jdg rfl
theorem jr4 {size:Nat} {x y:Od}:WD F ((.mk dst (.a (.copy size x y)) none,none)::m) st es fr h Q=zmD F (jb7 st fr h (.copy size x y)) dst m st es fr Q:=jdh rfl
theorem jol {x:Od}:WO F (.mk dst (.a (.clear z x)) none::l) st fr h Q=zmO F (jb7 st fr h (.clear z x)) dst l st fr Q:=jdg rfl
theorem jom {x:Od}:WD F ((.mk dst (.a (.clear z x)) none,none)::m) st es fr h Q=zmD F (jb7 st fr h (.clear z x)) dst m st es fr Q:=jdh rfl
theorem jon:WO F (.mk dst (.a (.mkmap va)) none::l) st fr h Q=zmO F (jb7 st fr h (.mkmap va)) dst l st fr Q:=jdg rfl
theorem joo:WD F ((.mk dst (.a (.mkmap va)) none,none)::m) st es fr h Q=zmD F (jb7 st fr h (.mkmap va)) dst m st es fr Q:=jdh rfl
theorem jr5 {x k:Od}:WO F (.mk dst (.a (.look sig va z okf x k)) none::l) st fr h Q=zmO F (jb7 st fr h (.look sig va z okf x k)) dst l st fr Q:=jdg rfl
theorem jr6 {x k:Od}:WD F ((.mk dst (.a (.look sig va z okf x k)) none,none)::m) st es fr h Q=zmD F (jb7 st fr h (.look sig va z okf x k)) dst m st es fr Q:=jdh rfl
theorem jr7 {x k y:Od}:WO F (.mk dst (.a (.mupd sig va x k y)) none::l) st fr h Q=zmO F (jb7 st fr h (.mupd sig va x k y)) dst l st fr Q:=jdg rfl
theorem jr8 {x k y:Od}:WD F ((.mk dst (.a (.mupd sig va x k y)) none,none)::m) st es fr h Q=zmD F (jb7 st fr h (.mupd sig va x k y)) dst m st es fr Q:=jdh rfl
theorem jld {n size:Nat} {x:Od}:WO F (.mk dst (.a (.slicea n size x)) none::l) st fr h Q=zmO F (jb7 st fr h (.slicea n size x)) dst l st fr Q:=jdg rfl
theorem jle {n size:Nat} {x:Od}:WD F ((.mk dst (.a (.slicea n size x)) none,none)::m) st es fr h Q=zmD F (jb7 st fr h (.slicea n size x)) dst m st es fr Q:=jdh rfl
theorem jr9 {size:Nat} {x:Od}:WO F (.mk dst (.a (.boxc size x)) none::l) st fr h Q=zmO F (jb7 st fr h (.boxc size x)) dst l st fr Q:=jdg rfl
theorem jsa {size:Nat} {x:Od}:WD F ((.mk dst (.a (.boxc size x)) none,none)::m) st es fr h Q=zmD F (jb7 st fr h (.boxc size x)) dst m st es fr Q:=jdh rfl
def j8k (o:BO) (x y:Option AV):Option AV:=ob x (fun a=>ob y (fun b=>svc none a (fun a=>svc none b (fun b=>jda o a b))))
theorem jxo {o:BO} {x y:Od}:pop st fr (.bin o x y)=j8k o (ev st fr x) (ev st fr y):=rfl
theorem jlf {o:BO} {a b:SV}:j8k o (some (.s a)) (some (.s b))=jda o a b:=rfl
def j7n (off:Nat) (x:Option AV):Option AV:=ob x (fun v=>jcu v (fun b o=>some (.s (.ptr b (o+off)))) (fun cs=>some (.s (.cp (jbf off cs)))))
theorem jxp {off:Nat} {x:Od}:pop st fr (.fld off x)=j7n off (ev st fr x):=rfl
theorem jop {off b:Nat}:j7n off (some (.s (.ptr b o)))=some (.s (.ptr b (o+off))):=rfl
theorem jsb {off:Nat} {cs:List SV}:j7n off (some (.s (.cp cs)))=some (.s (.cp (jbf off cs))):=rfl
def j3k (x:Option AV):Option AV:=ob x (fun v=>jcu v (fun b o=>some (.s (.ptr b o))) (fun cs=>some (.s (.cp cs))))
theorem jsc {x:Od}:pop st fr (.nchk x)=j3k (ev st fr x):=rfl
theorem jlg {b:Nat}:j3k (some (.s (.ptr b o)))=some (.s (.ptr b o)):=rfl
theorem joq {cs:List SV}:j3k (some (.s (.cp cs)))=some (.s (.cp cs)):=rfl
def j8l (x:Option AV):Option AV:=ob x jqp
theorem jxq {x:Od}:pop st fr (.len x)=j8l (ev st fr x):=rfl
theorem jlh:j8l (some v)=jqp v:=rfl
def j8m (size:Nat) (x y:Option AV):Option AV:=ob x (fun v=>ob y (fun w=>jts size v w))
theorem jxr {size:Nat} {x i:Od}:pop st fr (.ixs size x i)=j8m size (ev st fr x) (ev st fr i):=rfl
theorem jli {size:Nat}:j8m size (some v) (some w)=jts size v w:=rfl
def j8n (n size:Nat) (x y:Option AV):Option AV:=ob x (fun v=>ob y (fun w=>j1n n size v w))
theorem jxs {n size:Nat} {x i:Od}:pop st fr (.ixa n size x i)=j8n n size (ev st fr x) (ev st fr i):=rfl
theorem jlj {n size:Nat}:j8n n size (some v) (some w)=j1n n size v w:=rfl
def j51 (x:Option AV) (a b:Od) (st fr:List AV):Option AV:=ob x (fun v=>jge v (fun t=>ev st fr (oif t a b)))
theorem jsd {c a b:Od}:pop st fr (.pick c a b)=j51 (ev st fr c) a b st fr:=rfl
theorem jh2 {a b:Od}:j51 (some (.s (.bool t))) a b st fr=if t=true then ev st fr a else ev st fr b:=by cases t<;>rfl
def j8o (i:Nat) (x:Option AV):Option AV:=ob x (fun v=>AV.casesOn (motive:=fun _=>Option AV) v (fun _=>none) (fun _=>none) (fun l=>ob (jcl l i) (fun p=>jc9 p.1 p.2)) none none)
theorem jxt {x:Od}:pop st fr (.ext i x)=j8o i (ev st fr x):=rfl
def mk1 (p:Option (Bool×List SV)):Option AV:=ob p (fun p=>jc9 p.1 p.2)
theorem jor {a:Bool} {l:List SV}:mk1 (some (a,l))=jc9 a l:=rfl
theorem jos {l:List (Bool×List SV)}:j8o i (some (.tup l))=mk1 (jcl l i):=rfl
def ldR (h:Hp) (agg:Bool) (cs:Option (List SV)):R:=ob cs (fun cs=>ob (jc9 agg cs) (fun v=>ok v h))
theorem j3l {cs:List SV}:ldR h true (some cs)=some (.agg cs,h):=rfl
theorem j3m {a:SV}:ldR h false (some [a])=some (.s a,h):=rfl
def j3n (h:Hp) (n:Nat) (agg:Bool) (x:Option AV):R:=ob x (fun v=>ob (jiw h n agg v) (fun v=>ok v h))
theorem jse {n:Nat} {x:Od}:jb7 st fr h (.load n agg x)=j3n h n agg (ev st fr x):=jtr
theorem jlk {n b:Nat}:j3n h n agg (some (.s (.ptr b o)))=ldR h agg (rdB (h.get b) o n):=by
 show ob (ob (rdB (h.get b) o n) _) _=_
 rw[j3d];rfl
theorem jot {n:Nat} {cs:List SV}:j3n h n agg (some (.s (.cp cs)))=ldR h agg (ja1 n cs):=by
 show ob (ob (ja1 n cs) _) _=_
 rw[j3d];rfl
def jfq (h:Hp) (n:Nat) (x y:Option AV):R:=ob x (fun p=>ob y (fun v=>jxf h n p v))
theorem jou {n:Nat} {x v:Od}:jb7 st fr h (.store n x v)=jfq h n (ev st fr x) (ev st fr v):=rfl
def stR (h:Option Hp):R:=ob h (fun h=>ok .undef h)
theorem jov:stR (some h)=some (.undef,h):=rfl
theorem j0q {b:Nat} {x:SV} (k:Ok h):jfq h 1 (some (.s (.ptr b o))) (some (.s x))=stR (wrB h b (h.get b) o [x]):=j0o k
theorem ju0 {n b:Nat} {cs:List SV} (k:Ok h) (hn:cs.length=n):jfq h n (some (.s (.ptr b o))) (some (.agg cs))=stR (wrB h b (h.get b) o cs):=juw k hn
def j8p (h:Hp) (e:TypeId) (size bytes:Nat) (x y:Option AV):R:=ob x (fun v=>ob y (fun w=>jzm h e size bytes v w))
theorem jxu {e:TypeId} {size:Nat} {x y:Od}:jb7 st fr h (.app e size bytes x y)=j8p h e size bytes (ev st fr x) (ev st fr y):=rfl
theorem jll {e:TypeId} {size:Nat}:j8p h e size bytes (some v) (some w)=jzm h e size bytes v w:=rfl
def bsO (h:Hp) (e:TypeId) (size len:Nat) (x:Option (List SV)):R:=ob x (fun cs=>some (.s (.slice h.next 0 len len true size),h.push (.arr cs e)))
theorem jow {e:TypeId} {size len:Nat} {cs:List SV}:bsO h e size len (some cs)=some (.s (.slice h.next 0 len len true size),h.push (.arr cs e)):=rfl
theorem jxv {e:TypeId} {size:Nat} {len:Nat} {ps:List (Nat×Nat×Od)} (k:Ok h):jb7 st fr h (.bslice e size z len ps)=bsO h e size len (fill st fr ps z):=jux k
def j6q (h:Hp) (e:TypeId) (x:Option AV):R:=ob x (fun v=>cel v (fun cs=>some (.s (.ptr h.next 0),h.push (.arr cs e))))
theorem j52 {e:TypeId} {x:Od} (k:Ok h):jb7 st fr h (.box e x)=j6q h e (ev st fr x):=j3f k
theorem jxw {e:TypeId} {x:SV}:j6q h e (some (.s x))=some (.s (.ptr h.next 0),h.push (.arr [x] e)):=rfl
theorem jox {e:TypeId} {cs:List SV}:j6q h e (some (.agg cs))=some (.s (.ptr h.next 0),h.push (.arr cs e)):=rfl
def j8q (h:Hp) (e:TypeId) (size bytes:Nat) (z:List SV) (x y:Option AV):R:=ob x (fun v=>ob y (fun u=>j50 h e size bytes z v u))
theorem jh3 {e:TypeId} {size:Nat} {l c:Od}:jb7 st fr h (.mkslice e size bytes z l c)=j8q h e size bytes z (ev st fr l) (ev st fr c):=rfl
theorem jlm {e:TypeId} {size:Nat}:j8q h e size bytes z (some v) (some w)=j50 h e size bytes z v w:=rfl
def re1 (h:Hp) (x:Option (Bool×List SV)):R:=ob x (fun p=>ob (jc9 p.1 p.2) (fun v=>some (v,h)))
theorem jxx {r:IR}:jbi (.mk fr h) [r]=re1 h (jis fr h r):=juy
theorem j3o {a:SV}:re1 h (some (false,[a]))=some (.s a,h):=rfl
theorem j3p {l:List SV}:re1 h (some (true,l))=some (.agg l,h):=rfl
def reT (g:Option AV):Option (Bool×List SV):=ob g j87
theorem jxy:jis fr h (.tmp g)=reT (jcl fr g):=rfl
theorem j3q {x:SV}:reT (some (.s x))=some (false,[x]):=rfl
theorem jsf {x:List SV}:reT (some (.agg x))=some (true,x):=rfl
def reC (h:Hp) (n:Nat) (agg:Bool) (g:Option AV):Option (Bool×List SV):=ob g (fun v=>jl8 v (fun b off=>ob (rdB (h.get b) off n) (fun cs=>some (agg,cs))))
theorem jsg {n:Nat}:jis fr h (.cell g n agg)=reC h n agg (jcl fr g):=rfl
def reP (agg:Bool) (x:Option (List SV)):Option (Bool×List SV):=ob x (fun cs=>some (agg,cs))
theorem joy {cs:List SV}:reP agg (some cs)=some (agg,cs):=rfl
theorem jsh {n b:Nat}:reC h n agg (some (.s (.ptr b o)))=reP agg (rdB (h.get b) o n):=rfl
def j7o (x:R) (Q:AV->Hp->Prop):Prop:=obP x (fun p=>Q p.1 p.2)
theorem jln {Q:AV->Hp->Prop}:j7o (some (v,h)) Q=Q v h:=ja6
theorem jf7 {res:List IR} {Q:AV->Hp->Prop}:j7g res Q .normal s=j7o (jbi s res) Q:=rfl
theorem joz {res:List IR} {Q:AV->Hp->Prop}:j7g res Q .ret s=j7o (jbi s res) Q:=rfl
def re2 (h:Hp) (x:Option (List (Bool×List SV))):R:=ob x (fun vs=>some (.tup vs,h))
theorem jo0 {l:List (Bool×List SV)}:re2 h (some l)=some (.tup l,h):=rfl
theorem jxz {r r':IR} {k:List IR}:jbi (.mk fr h) (r::r'::k)=re2 h (jdq fr h (r::r'::k)):=juz
theorem jf8 {size b off len mc sz:Nat} {ex:Bool} (hm:1<len):jts size (.s (.slice b off len mc ex sz)) (vi 1)=some (.s (.ptr b (off+size))):=by
 have:=jcd (size:=size) (b:=b) (off:=off) (len:=len) (mc:=mc) (sz:=sz) (ex:=ex) hm
 rw[Nat.one_mul] at this;exact this
theorem jlp {n size b off:Nat} (hm:0<n):j1n n size (.s (.ptr b off)) (vi 0)=some (.s (.ptr b off)):=by
 have:=jg0 (n:=n) (size:=size) (b:=b) (off:=off) hm
 rw[f1m,f1j] at this;exact this
theorem jlq {n size b off:Nat} (hm:1<n):j1n n size (.s (.ptr b off)) (vi 1)=some (.s (.ptr b (off+size))):=by
 have:=jg0 (n:=n) (size:=size) (b:=b) (off:=off) hm
 rw[Nat.one_mul] at this;exact this
theorem jo1 {n size:Nat} {cs:List SV} (hm:0<n):j1n n size (.s (.cp cs)) (vi 0)=some (.s (.cp cs)):=by
 have:=jk5 (n:=n) (size:=size) (cs:=cs) hm
 rw[f1m] at this;exact this
theorem jo2 {n size:Nat} {cs:List SV} (hm:1<n):j1n n size (.s (.cp cs)) (vi 1)=some (.s (.cp (jbf size cs))):=by
 have:=jk5 (n:=n) (size:=size) (cs:=cs) hm
 rw[Nat.one_mul] at this;exact this
theorem j3r [k:Ok h]:h.hid=[]:=k.hid
theorem jx0 [k:Ok h] {n:Nat} {hid:List (Nat×Nat)}:(h.hide lo hid).get n=if jac hid n=true then none else h.get n:=j0n k
theorem jx1 [k:Ok h] {e:TypeId} {size:Nat} {len:Nat} {ps:List (Nat×Nat×Od)}:jb7 st fr h (.bslice e size z len ps)=bsO h e size len (fill st fr ps z):=jxv k
theorem j3s [k:Ok h] {e:TypeId} {x:Od}:jb7 st fr h (.box e x)=j6q h e (ev st fr x):=j52 k
theorem jx2 [k:Ok h] {e:TypeId}:jb7 st fr h (.new e z)=some (.s (.ptr h.next 0),h.push (.arr z e)):=j3e k
theorem j3t [k:Ok h] {b:Nat} {x:SV}:jfq h 1 (some (.s (.ptr b o))) (some (.s x))=stR (wrB h b (h.get b) o [x]):=j0q k
theorem jqd [k:Ok h] {n b:Nat} {cs:List SV} (hn:cs.length=n):jfq h n (some (.s (.ptr b o))) (some (.agg cs))=stR (wrB h b (h.get b) o cs):=ju0 k hn
theorem jx3 [k:Ok h] {b:Nat} {t:SV}:jfq h 2 (some (.s (.ptr b o))) (some (.agg [t,u]))=stR (wrB h b (h.get b) o [t,u]):=jqd rfl
theorem jx4 [k:Ok h] {b:Nat} {t v:SV}:jfq h 3 (some (.s (.ptr b o))) (some (.agg [t,u,v]))=stR (wrB h b (h.get b) o [t,u,v]):=jqd rfl
theorem jx5 [k:Ok h] {b:Nat} {t v w:SV}:jfq h 4 (some (.s (.ptr b o))) (some (.agg [t,u,v,w]))=stR (wrB h b (h.get b) o [t,u,v,w]):=jqd rfl
theorem jx6 [k:Ok h] {b:Nat} {t v w x:SV}:jfq h 5 (some (.s (.ptr b o))) (some (.agg [t,u,v,w,x]))=stR (wrB h b (h.get b) o [t,u,v,w,x]):=jqd rfl
theorem jx7 [k:Ok h] {b:Nat} {t v w x y z:SV}:jfq h 7 (some (.s (.ptr b o))) (some (.agg [t,u,v,w,x,y,z]))=stR (wrB h b (h.get b) o [t,u,v,w,x,y,z]):=jqd rfl
theorem jx8 [k:Ok h] {x:AB} {n:Nat}:(h.push x).get n=if n=h.next then some x else h.get n:=jbt k
theorem jx9 [k:Ok h] {b n:Nat} {x:Option AB} (hb:1<=b):(h.put b x).get n=if n=b then x else h.get n:=jbk k hb
def mkL (agg:Bool) (x:Option (List SV)):Option AV:=ob x (fun cs=>jc9 agg cs)
theorem j3u {cs:List SV}:mkL true (some cs)=some (.agg cs):=rfl
theorem j3v {a:SV}:mkL false (some [a])=some (.s a):=rfl
theorem jya {n b:Nat}:jiw h n agg (.s (.ptr b o))=mkL agg (rdB (h.get b) o n):=rfl
theorem j3w {n:Nat} {cs:List SV}:jiw h n agg (.s (.cp cs))=mkL agg (ja1 n cs):=rfl
theorem j3x {a b:Int} (h1:0<=a) (h3:0<b):0<=a % b/\a % b<=a:=by
 have h2:=Int.emod_add_mul_ediv a b
 have h:=Int.ediv_nonneg h1 (Int.le_of_lt h3)
 have h4:=Int.mul_nonneg (Int.le_of_lt h3) h
 exact⟨Int.emod_nonneg a (by omega),by omega⟩
theorem jc3 {a b:Int} (h1:0<=a) (h2:a<=9223372036854775807) (h3:0<b):jda .rem (.int .i64 a) (.int .i64 b)=some (vi (a % b)):=by
 have:=j3x h1 h3
 rw[jrr,if_neg (by omega),f1z h1,jfh (by omega) (by omega)]
theorem j3y {a b:Int} (h1:-9223372036854775808<=a) (h2:a<=9223372036854775807) (h3:0<b):-9223372036854775808<=a.tdiv b/\a.tdiv b<=9223372036854775807:=by
 have h:=Int.natAbs_tdiv_le_natAbs a b
 rcases(by omega:a<0∨0<=a) with h4 | h4
 .have h5:a.tdiv b<=0:=by
   obtain⟨c,rfl⟩:∃ c,a=-c:=⟨-a,by omega⟩
   rw[Int.neg_tdiv]
   have:=Int.tdiv_nonneg (a:=c) (b:=b) (by omega) (Int.le_of_lt h3)
   omega
  omega
 .omega
theorem jf9 {a b:Int} (h1:-9223372036854775808<=a) (h2:a<=9223372036854775807) (h3:0<b):jda .quo (.int .i64 a) (.int .i64 b)=some (vi (a.tdiv b)):=by
 have:=j3y h1 h2 h3
 rw[j3a,if_neg (by omega),jfh this.1 this.2]
theorem jga {a n:Int} {k:IntKind} (h1:0<=n) (h2:n<=63):jda .shr (.int .i64 a) (.int k n)=some (vi (a / 2 ^ n.toNat)):=by
 obtain⟨m,rfl⟩:=Int.eq_ofNat_of_zero_le h1
 exact j3b (by omega)
theorem jo3 {a n:Nat}:(a=a+(n+1))=False:=eq_false (by omega)
theorem jo4 {a n:Nat}:(a+(n+1)=a)=False:=eq_false (by omega)
theorem j0r {e:TypeId} {x:SV} (ok:Ok h) (h1:bytes<=1000):j50 h e 1 bytes [x] (vi 2) (vi 2)=some (.s (.slice h.next 0 2 2 true 1),h.push (.arr [x,x] e)) :=
 jxg (m:=2) ok (by omega) (by omega)
theorem jsi [ok:Ok h] {e:TypeId} {x:SV} (h1:bytes<=1000):j50 h e 1 bytes [x] (vi 2) (vi 2)=some (.s (.slice h.next 0 2 2 true 1),h.push (.arr [x,x] e)):=j0r ok h1
def j3z (F:Fns) (dst:Option Nat) (m:List (IOper×Option (List Nat))) (st:List AV) (es:List Ent) (fr:List AV) (h:Hp) (Q:Ex->St->Prop) (v:AV) (h':Hp):Prop:=WD F m (v::st) (.mk [(h.next,h'.next)] none::es) (jba fr dst v) (.mk h'.next h'.tr h.lo h.hid) Q
def zkH (F:Fns) (x:Option (List (Nat×Nat))) (vs:Option (List AV)) (f:FuncId) (dst:Option Nat) (m:List (IOper×Option (List Nat))) (st:List AV) (es:List Ent) (fr:List AV) (h:Hp) (Q:Ex->St->Prop):Prop:=obP x (fun hid'=>obP vs (fun vs=>WC F f vs (h.hide h.next hid') (j3z F dst m st es fr h Q)))
theorem jo5 {x:List (Nat×Nat)} {f:FuncId}:zkH F (some x) (some vs) f dst m st es fr h Q=WC F f vs (h.hide h.next x) (j3z F dst m st es fr h Q):=by
 unfold zkH;rw[ja6,ja6]
theorem jh4 {x:List (Nat×Nat)}:j3z F dst m st es fr h Q v (h.hide lo x)=WD F m (v::st) (.mk [(h.next,h.next)] none::es) (jba fr dst v) h Q:=by cases h;rfl
theorem jd8 {f:FuncId} {as:List Od}:WD F ((.mk dst (.a (.call f as)) none,some js)::m) st es fr h Q=zkH F (sel es js h.hid) (evs st fr as) f dst m st es fr h Q:=by
 cases h with
 | mk k t lo hid =>
 rw[jkj]
 have key:∀ n v h' e,jqn (jat F (run F n)) st fr es (.mk k t lo hid) (.a (.call f as)) none (some js)=some (.mk v h' e)↔∃ x vs h1,sel es js hid=some x/\evs st fr as=some vs/\jat F (run F n) f vs (.mk k t k x)=some (v,h1)/\h'=.mk h1.next h1.tr lo hid/\e=.mk [(k,h1.next)] none:=fun n v h' e=>by
  have e0:jqn (jat F (run F n)) st fr es (.mk k t lo hid) (.a (.call f as)) none (some js)=ob (sel es js hid) (fun x=>ob (ob (evs st fr as) (fun vs=>jat F (run F n) f vs (.mk k t k x))) (fun p=>Hp.casesOn (motive:=fun _=>Option DR) p.2 (fun n' t' _ _=>some (.mk p.1 (.mk n' t' lo hid) (.mk [(k,n')] none))))):=rfl
  rw[e0]
  constructor
  .intro h1
   obtain⟨x,hx,h2⟩:=jaa.1 h1
   obtain⟨p,hp,h3⟩:=jaa.1 h2
   obtain⟨vs,hvs,h4⟩:=jaa.1 hp
   obtain⟨v1,⟨n1,t1,l1,d1⟩⟩:=p
   cases h3
   exact⟨x,vs,_,hx,hvs,h4,rfl,rfl⟩
  .rintro ⟨x,vs,⟨n1,t1,l1,d1⟩,hx,hvs,h4,rfl,rfl⟩
   exact jaa.2 ⟨x,hx,jaa.2 ⟨(v,.mk n1 t1 l1 d1),jaa.2 ⟨vs,hvs,h4⟩,rfl⟩⟩
 refine propext ⟨fun⟨n,v,h',e,h1,h2⟩=>?_,fun⟨x,hx,vs,hvs,n,v,h1,h2,h3⟩=>⟨n,v,_,_,(key n v _ _).2 ⟨x,vs,h1,hx,hvs,h2,rfl,rfl⟩,h3⟩⟩
 obtain⟨x,vs,h3,hx,hvs,h4,rfl,rfl⟩:=(key n v h' e).1 h1
 exact⟨x,hx,vs,hvs,n,v,h3,h4,h2⟩
theorem jqe {x:Option AB} {off sz:Nat} {c:SV} (hr:rdB x off sz=some row) (hj:row[j]?=some c):rdB x (off+j) 1=some [c]:=by
 cases x with
 | none=>cases hr
 | some x =>
  cases x with
  | map va es=>cases hr
  | arr cs ty =>
   rw[jdn,jbd] at hr ⊢
   obtain⟨h1,rfl⟩:=(jak _).1 hr
   have hjs:j<sz:=by
    rcases f0e j sz with h | h
    .exact h
    .rw [f0o (by simp;omega)] at hj;cases hj
   have hj2:cs[off+j]?=some c:=by
    rw[f1p,if_pos hjs,f02] at hj;exact hj
   have hl:off+j<cs.length:=by
    rcases f0e (off+j) cs.length with h | h
    .exact h
    .rw [f0o h] at hj2;cases hj2
   refine(jak _).2 ⟨by simp;omega,?_⟩
   have e:cs.drop (off+j)=c::cs.drop (off+j+1):=by
    rw[f0w hl]
    rw[f0f hl] at hj2
    rw[Option.some.inj hj2]
   rw[e];rfl
def mmV (mx:Bool) (x y:Option AV):Option AV:=ob x (fun a=>ob y (fun b=>jiz a (fun k m=>jiz b (fun k' n=>oif (Nat.beq (ikn k) (ikn k')) (some (.s (.int k (oif (ile m n) (oif mx n m) (oif mx m n))))) none))))
theorem j30 {mx:Bool} {x y:Od}:pop st fr (.mm mx x y)=mmV mx (ev st fr x) (ev st fr y):=rfl
theorem jsj {a b:Int}:mmV false (some (.s (.int .i64 a))) (some (.s (.int .i64 b)))=some (vi (if a<=b then a else b)):=by
 show some (AV.s (.int .i64 (oif (ile a b) a b)))=_
 rw[jaf,jb0];simp only[decide_eq_true_eq]
theorem jsk {a b:Int}:mmV true (some (.s (.int .i64 a))) (some (.s (.int .i64 b)))=some (vi (if a<=b then b else a)):=by
 show some (AV.s (.int .i64 (oif (ile a b) b a)))=_
 rw[jaf,jb0];simp only[decide_eq_true_eq]
end
theorem j89:type_of% @Int.cast_ofNat_Int:=@Int.cast_ofNat_Int
theorem j9a:type_of% @Int.natCast_zero:=@Int.natCast_zero
theorem j9b:type_of% @Int.natCast_one:=@Int.natCast_one
theorem j9c:type_of% @decide_eq_true_eq:=@decide_eq_true_eq
theorem j9d:type_of% @decide_eq_false_iff_not:=@decide_eq_false_iff_not
theorem j9e:type_of% @Bool.false_eq_true:=@Bool.false_eq_true
theorem j9f:type_of% @and_true:=@and_true
theorem j9g:type_of% @true_and:=@true_and
theorem j9h:type_of% @List.cons_append:=@List.cons_append
theorem j9i:type_of% @List.nil_append:=@List.nil_append
theorem j7p:type_of% @decide_true:=@decide_true
theorem j7q:type_of% @decide_false:=@decide_false
theorem j7r:type_of% @Bool.not_true:=@Bool.not_true
theorem j7s:type_of% @Bool.not_false:=@Bool.not_false
theorem j7t:type_of% @Nat.add_zero:=@Nat.add_zero
theorem j7u:type_of% @Nat.zero_add:=@Nat.zero_add
theorem j7v:type_of% @Option.some.injEq:=@Option.some.injEq
theorem j7w:type_of% @Bool.true_eq_false:=@Bool.true_eq_false
theorem j7x:type_of% @not_true_eq_false:=@not_true_eq_false
theorem j7y:type_of% @not_false_eq_true:=@not_false_eq_true
theorem j7z:type_of% @Hp.next_push:=@Hp.next_push
theorem j70:type_of% @Hp.next_put:=@Hp.next_put
theorem j71:type_of% @Nat.add_assoc:=@Nat.add_assoc
attribute [go_sem] jd8 jo5 jh4 jwv j21 jww j22 jrg jrv job jnr jwx jwy jrw jn6 jrx jn9 jn8 joc joa jk6 jn7 jw0 jry jod joe jrz jog jof joi joh jk7 je3 jk8 je4 jk9 jdo jla jr0 jg1 jey jhl jkg jf0 jkh jnq jez jhm jki jxi jxk jlb jh0 jr1 joj jxm jr3 jol jon jr5 jr7 jld jr9 jxj jxl jlc jh1 jr2 jok jxn jr4 jom joo jr6 jr8 jle jsa j7h j7i j7j jrh jnt jkn jko jkp jkq jkr jks jf2 jf3 j7k j7l jkt j28 jku jnu jho jnv jhp j29 jri jw4 jw5 jw6 jnw jhq jhr jhs jht jkv jnx jkw jkx jhu je0 je1 jky jrj jrk j30 jsj jsk jw7 jsd jh2 jkz jny jk0 jxo jlf jrl jrm jxp jop jsb jnz jxt jos jor jsc jlg joq jn0 jk1 jn1 jk2 jhv jf4 jk3 jn2 jn3 jxq jlh jn4 ji6 jhw jk4 jro jrp jrq jf9 jc3 jga jw9 jxa jxb jxc jxd jxe jxr jli jxs jlj jxx j3o j3p jxy j3q jsf jsg joy jsh jln jf7 joz jhy jc2 jhz jxz jo0 j3h jdn jrs jse jlk jot j3l j3m jou jov jh3 jlm jxu jll jow jxw jox jru jxh jrt jn5 jhx jf5 jya j3w j3u j3v jo3 jo4 jf8 jg0 jk5 jlp jlq jo1 jo2 j3r jx0 jx1 j3s jx2 j3t jx3 jx4 jx5 jx6 jx7 jqd jx8 jx9 jsi jf6 jcd j89 j9a j9b j9c j9d j9e j9f j9g j9h j9i j7p j7q j7r j7s j7t j7u j7v j7w j7x j7y j7z j70 j71
end
end Go.Proofs.Ythbghmhjgdonmaa.Ev
