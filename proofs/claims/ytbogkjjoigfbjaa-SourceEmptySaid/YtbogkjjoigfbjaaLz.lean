/- Open runs: what operations answer at values that are known in part. No program in sight. -/
import Derived.Test.YtbogkjjoigfbjaaOp
namespace Go.Proofs.Ytbogkjjoigfbjaa.Ev
noncomputable section
open Go Go.RowKit
set_option linter.all false
variable {t va agg ex' okf:Bool} {rows:List (List SV)} {vs:List AV} {sig:List Bool} {js:List Nat} {z xs row:List SV} {g i j o b' lo o' mc' sz' bytes:Nat} {u:SV}
abbrev vi (n:Int):AV:=.s (.int .i64 n)
abbrev vb (b:Bool):AV:=.s (.bool b)
abbrev si (n:Int):SV:=.int .i64 n
section
variable {st fr:List AV} {h:Hp} {α β:Type}
theorem j9t:ev st fr (.l i)=jcq st i:=rfl
theorem j9u:ev st fr (.g i)=jcq fr i:=rfl
theorem j9v {v:AV}:ev st fr (.c v)=some v:=rfl
theorem jsw:evs st fr []=some []:=rfl
theorem jou {o:Od} {l:List Od}:evs st fr (o::l)=ob (ev st fr o) (fun v=>ob (evs st fr l) (fun r=>some (v::r))):=rfl
theorem jll {a:α} {l:List α}:jcq (a::l) 0=some a:=rfl
theorem jlm {a:α} {l:List α} {n:Nat}:jcq (a::l) (n+1)=jcq l n:=rfl
theorem jln {a x:α} {l:List α}:jr4 (a::l) 0 x=x::l:=rfl
theorem jlp {a x:α} {l:List α} {n:Nat}:jr4 (a::l) (n+1) x=a::jr4 l n x:=rfl
theorem jlq {v:AV}:jba fr none v=fr:=rfl
theorem jlr {d:Nat} {v:AV}:jba fr (some d) v=jr4 fr d v:=rfl
theorem jgm:jci 0=[]:=rfl
theorem jgn {n:Nat}:jci (n+1)=.undef::jci n:=rfl
theorem j9w {a:α} {f:α->Option β}:ob (some a) f=f a:=rfl
theorem j9x {f:α->Option β}:ob none f=none:=rfl
theorem jgo {b:Bool} {x y:α}:oif b x y=if b=true then x else y:=by cases b<;>rfl
theorem j47 {e:Option β} {x:SV} {f:SV->Option β}:svc e (.s x) f=f x:=rfl
theorem jls {e:Option β} {f:SV->Option β}:svc e .undef f=e:=rfl
theorem jov {k:IntKind} {n:Int} {f:IntKind->Int->Option β}:jw6 (.int k n) f=f k n:=rfl
theorem jii {b:Bool} {f:Bool->Option β}:jji (.bool b) f=f b:=rfl
theorem jow {k:IntKind} {n:Int} {f:IntKind->Int->Option β}:jjp (.s (.int k n)) f=f k n:=rfl
theorem jij {b:Bool} {f:Bool->Option β}:jgz (.s (.bool b)) f=f b:=rfl
theorem j48 {x:SV} {f:List SV->Option β}:cel (.s x) f=f [x]:=rfl
theorem jsx {l:List SV} {f:List SV->Option β}:cel (.agg l) f=f l:=rfl
theorem jyt {a:SV}:jdf false [a]=some (.s a):=rfl
theorem jyu {l:List SV}:jdf true l=some (.agg l):=rfl
theorem jyv {x:SV} {f:List SV->Option β}:jud false (.s x) f=f [x]:=rfl
theorem jox {l:List SV} {f:List SV->Option β}:jud true (.agg l) f=f l:=rfl
theorem jik {l:List α}:ja4 0 l=some []:=rfl
theorem jil {a:α} {l:List α} {n:Nat}:ja4 (n+1) (a::l)=ob (ja4 n l) (fun x=>some (a::x)):=rfl
theorem jim {l:List α}:jbm 0 l=l:=rfl
theorem jin {a:α} {l:List α} {n:Nat}:jbm (n+1) (a::l)=jbm n l:=rfl
theorem jlt {n:Nat}:jbm n ([]:List α)=[]:=by cases n<;>rfl
theorem joy:jbu ([]:List α)=0:=rfl
theorem jlu {a:α} {l:List α}:jbu (a::l)=jbu l+1:=rfl
theorem jlv {l:List α}:jmv [] l=some l:=rfl
theorem jio {x a:α} {xs l:List α}:jmv (x::xs) (a::l)=ob (jmv xs l) (fun y=>some (x::y)):=rfl
theorem jfg {xs l:List α}:jbg 0 xs l=jmv xs l:=rfl
theorem jfh {a:α} {xs l:List α} {n:Nat}:jbg (n+1) xs (a::l)=ob (jbg n xs l) (fun y=>some (a::y)):=rfl
theorem jlw {a:Nat}:Nat.beq a a=true:=f1f a
theorem jsy {a b:Nat}:(Nat.beq a b=true)=(a=b):=jf4 a b
theorem jsz {a b:Nat}:(Nat.ble a b=true)=(a<=b):=jqj a b
theorem jyw {x:Od}:pop st fr (.mv x)=ev st fr x:=rfl
theorem jlx {ps:List (Nat×Nat×Od)}:pop st fr (.build z ps)=ob (fill st fr ps z) (fun cs=>some (.agg cs)):=rfl
theorem joz {cs:List SV}:fill st fr [] cs=some cs:=rfl
theorem jly {off n:Nat} {o:Od} {ps:List (Nat×Nat×Od)} {cs:List SV}:fill st fr ((off,n,o)::ps) cs=ob (ev st fr o) (fun v=>cel v (fun xs=>oif (Nat.beq (jbu xs) n) (ob (jbg off xs cs) (fill st fr ps)) none)):=rfl
theorem js0 {x:Od}:pop st fr (.not x)=ob (ev st fr x) (fun v=>jgz v (fun b=>some (.s (.bool (!b))))):=by
 show ob (ev st fr x) (fun v=>jgz v (fun b=>some (AV.s (.bool (jet b)))))=_
 congr 1;funext v;congr 1;funext b;cases b<;>rfl
theorem js1 {x:Od}:pop st fr (.neg x)=ob (ev st fr x) (fun v=>jjp v (fun k n=>jw3 k (-n))):=rfl
theorem jo0 {off n:Nat} {x:Od}:pop st fr (.fval off n agg x)=ob (ev st fr x) (fun v=>AV.casesOn (motive:=fun _=>Option AV) v (fun _=>none) (fun cs=>ob (ja4 n (jbm off cs)) (fun cs=>jdf agg cs)) (fun _=>none) none none):=rfl
theorem jo1 {k:IntKind} {x:Od}:pop st fr (.conv k x)=ob (ev st fr x) (fun v=>jjp v (fun _ n=>j1f k n)):=rfl
theorem jlz {f:FuncId} {cs:List Od}:pop st fr (.mkfun f cs)=ob (evs st fr cs) (fun vs=>ob (j23 vs) (fun ps=>some (.s (.func f ps)))):=rfl
theorem jo2:j23 []=some []:=rfl
theorem jl0 {b:Nat} {l:List AV}:j23 (.s (.ptr b o)::l)=ob (j23 l) (fun r=>some ((b,o)::r)):=rfl
theorem jip:jg0 []=[]:=rfl
theorem jgp {b:Nat} {l:List (Nat×Nat)}:jg0 ((b,o)::l)=.s (.ptr b o)::jg0 l:=rfl
theorem jl1 {b:Nat} {f:Nat->Nat->Option β} {g:List SV->Option β}:jc1 (.s (.ptr b o)) f g=f b o:=rfl
theorem jo3 {cs:List SV} {f:Nat->Nat->Option β} {g:List SV->Option β}:jc1 (.s (.cp cs)) f g=g cs:=rfl
theorem jo4 {b:Nat} {f:Nat->Nat->Option β}:jn6 (.s (.ptr b o)) f=f b o:=rfl
def js2 (v:AV):Option AV:=jbh v (some (.s (.int .i64 0))) (fun _ _ n _ _ _=>some (.s (.int .i64 (Int.ofNat n)))) (fun rows=>some (.s (.int .i64 (Int.ofNat (jbu rows))))) (some (.s (.int .i64 0)))
theorem jo5:js2 (.s .nilSlice)=some (vi 0):=rfl
theorem jjv:js2 (.s (.lst rows))=some (vi rows.length):=by
 show some (AV.s (.int .i64 (Int.ofNat (jbu rows))))=_
 rw[jao];rfl
theorem jiq {b n mc sz:Nat} {e:Bool}:js2 (.s (.slice b o n mc e sz))=some (vi n):=rfl
def jyx (n:Int):Option AV:=if -9223372036854775808<=n/\n<=9223372036854775807 then some (vi n) else none
theorem j73 {n:Int} (h1:-9223372036854775808<=n) (h2:n<=9223372036854775807):inR .i64 n=true:=by
 cases n with
 | ofNat m=>exact(jqj m 9223372036854775807).symm▸(by have:(m:Int)<=9223372036854775807:=h2
                                                      omega)
 | negSucc m=>exact(jqj m 9223372036854775807).symm▸(by have:-9223372036854775808<=Int.negSucc m:=h1
                                                        omega)
theorem jl2 {n:Int}:jw3 .i64 n=jyx n:=by
 unfold jyx
 show oif (inR .i64 n) (some (AV.s (.int .i64 n))) none=_
 split
 .rename_i h;rw[j73 h.1 h.2];rfl
 .rename_i h
  cases e:inR .i64 n with
  | false=>rfl
  | true =>
   rcases jb0 e with⟨_,a,b⟩ | ⟨e,_⟩ | ⟨e,_⟩
   .exact absurd ⟨a,b⟩ h
   .cases e
   .cases e
theorem jei {n:Int} (h1:-9223372036854775808<=n) (h2:n<=9223372036854775807):jyx n=some (vi n):=if_pos ⟨h1,h2⟩
def w64 (n:Int):Int:=IntKind.wrap .i64 n
theorem jb2 {n:Int} (h1:-9223372036854775808<=n) (h2:n<=9223372036854775807):w64 n=n:=jg4 (j73 h1 h2)
theorem js3 {n:Int}:j1d .i64 n=some (vi (w64 n)):=by
 show oif (inR .i64 n) (some (AV.s (.int .i64 n))) (some (AV.s (.int .i64 (IntKind.wrap .i64 n))))=_
 cases e:inR .i64 n with
 | true=>rw[show w64 n=n from jg4 e];rfl
 | false=>rfl
variable {a b:Int}
theorem js4:jc2 .add (.int .i64 a) (.int .i64 b)=some (vi (w64 (a+b))):=by
 rw[←js3];show j1d .i64 (j22 a b)=_;rw[joa]
theorem js5:jc2 .sub (.int .i64 a) (.int .i64 b)=some (vi (w64 (a - b))):=by rw[←js3];rfl
theorem js6:jc2 .mul (.int .i64 a) (.int .i64 b)=some (vi (w64 (a*b))):=by rw[←js3];rfl
theorem j49:jc2 .quo (.int .i64 a) (.int .i64 b)=if b=0 then none else jyx (a.tdiv b):=by
 rw[←jl2]
 show oif (ieq b 0) none (jw3 .i64 (a.tdiv b))=_
 rw[jah,jb3];simp only[decide_eq_true_eq]
theorem jo6:jc2 .rem (.int .i64 a) (.int .i64 b)=if b=0 then none else jyx (a.tmod b):=by
 rw[←jl2]
 show oif (ieq b 0) none (jw3 .i64 (a.tmod b))=_
 rw[jah,jb3];simp only[decide_eq_true_eq]
theorem jyy:jc2 .eq (.int .i64 a) (.int .i64 b)=some (vb (decide (a=b))):=by
 show some (AV.s (.bool (ieq a b)))=_;rw[jb3]
theorem jyz:jc2 .ne (.int .i64 a) (.int .i64 b)=some (vb (decide (a≠b))):=by
 show some (AV.s (.bool (jet (ieq a b))))=_;rw[jb3,jdo];congr 3;by_cases h:a=b<;>simp[h]
theorem jy0:jc2 .lt (.int .i64 a) (.int .i64 b)=some (vb (decide (a<b))):=by
 show some (AV.s (.bool (jet (ile b a))))=_;rw[jb4,jdo];congr 3;by_cases h:a<b<;>simp[h]
 omega
theorem jy1:jc2 .le (.int .i64 a) (.int .i64 b)=some (vb (decide (a<=b))):=by
 show some (AV.s (.bool (ile a b)))=_;rw[jb4]
theorem jy2:jc2 .gt (.int .i64 a) (.int .i64 b)=some (vb (decide (b<a))):=by
 show some (AV.s (.bool (jet (ile a b))))=_;rw[jb4,jdo];congr 3;by_cases h:b<a<;>simp[h]
 omega
theorem jy3:jc2 .ge (.int .i64 a) (.int .i64 b)=some (vb (decide (b<=a))):=by
 show some (AV.s (.bool (ile b a)))=_;rw[jb4]
theorem j5a {n:Nat} {k:IntKind} (hn:n<=63):jc2 .shr (.int .i64 a) (.int k (n:Int))=some (vi (a / 2 ^ n)):=by
 have hs:j1e .i64 n=true:=by
  have hI:jkb .i64=true:=rfl
  unfold j1e
  simp[jah,jqj,hn,hI]
 have e:jc2 .shr (.int .i64 a) (.int k (n:Int))=jqk .shr .i64 a (n:Int):=by
  show oif (Nat.beq (ikn .i64) (ikn k)) (jqk .shr .i64 a n) (oif true (jqk .shr .i64 a n) none)=_
  cases Nat.beq (ikn .i64) (ikn k)<;>rfl
 rw[e]
 cases a with
 | ofNat m =>
  show oif (j1e .i64 n) (some (AV.s (.int .i64 (Int.ofNat (Nat.div m (Nat.pow 2 n)))))) none=_
  rw[hs]
  have:Int.ofNat (Nat.div m (Nat.pow 2 n))=Int.ofNat m / 2 ^ n:=by
   show((m / 2 ^ n:Nat):Int)=(m:Int) / 2 ^ n
   rw[Int.natCast_ediv,f2q];rfl
  rw[this];rfl
 | negSucc m =>
  show oif (j1e .i64 n) (some (AV.s (.int .i64 (Int.negSucc (Nat.div m (Nat.pow 2 n)))))) none=_
  rw[hs]
  have:Int.negSucc (Nat.div m (Nat.pow 2 n))=Int.negSucc m / 2 ^ n:=by
   obtain⟨q,hq⟩:∃ q,2 ^ n=q+1:=⟨2 ^ n - 1,by have:=Nat.two_pow_pos n;omega⟩
   have h2:(2:Int) ^ n=((q+1:Nat):Int):=by rw[←hq,f2q];rfl
   have h3:Nat.pow 2 n=q+1:=hq
   rw[h2,h3];rfl
  rw[this];rfl
end
class Ok (h:Hp):Prop where
 hid:h.hid=[]
 lo:h.lo=0
 pos:1<=h.next
theorem jct {a b:Nat} (h:a<=b):Nat.ble a b=true:=by rw[jqj];exact h
theorem jrk:Ok h0:=⟨rfl,rfl,f0b 1⟩
section
variable {h:Hp} {F:Fns} {st fr:List AV} {Q:Ex->St->Prop} {β:Type}
theorem jdr {x:AB} (k:Ok h):Ok (h.push x):=⟨k.hid,k.lo,f1e k.pos⟩
theorem jd7 {b:Nat} {x:Option AB} (k:Ok h):Ok (h.put b x):=⟨by rw[Hp.hid_put];exact k.hid,by rw[Hp.lo_put];exact k.lo,by rw[Hp.next_put];exact k.pos⟩
instance iPush {x:AB} [k:Ok h]:Ok (h.push x):=jdr k
instance iPut {b:Nat} {x:Option AB} [k:Ok h]:Ok (h.put b x):=jd7 k
theorem jbz {x:AB} {n:Nat} (k:Ok h):(h.push x).get n=if n=h.next then some x else h.get n:=by
 rw[Hp.get_eq,Hp.get_eq,Hp.hid_push,k.hid]
 have e:jae [] n=false:=rfl
 rw[e]
 show(h.tr.put (Nat.succ h.next) h.next (some x)).get n=_
 split
 .rename_i hn;subst hn;exact jat _ _ _ _ k.pos (ji5 _)
 .rename_i hn;exact jaz _ _ _ _ n k.pos (ji5 _) hn
theorem jbi {b n:Nat} {x:Option AB} (k:Ok h) (hb:1<=b):(h.put b x).get n=if n=b then x else h.get n:=by
 rw[Hp.get_eq,Hp.get_eq,Hp.hid_put,k.hid,Hp.tr_put]
 have e:jae [] n=false:=rfl
 rw[e]
 show(h.tr.put (Nat.succ b) b x).get n=_
 split
 .rename_i hn;subst hn;exact jat _ _ _ _ hb (ji5 _)
 .rename_i hn;exact jaz _ _ _ _ n hb (ji5 _) hn
def Hp.hide (h:Hp) (lo:Nat) (hid:List (Nat×Nat)):Hp:=.mk h.next h.tr lo hid
theorem jd8 {n:Nat}:jae [] n=false:=by cases n<;>rfl
theorem jgq {a b n:Nat} {l:List (Nat×Nat)}:jae ((a,b)::l) n=if a<=n/\n<b then true else jae l n:=by
 show oif (Nat.ble a n) (oif (Nat.ble (n+1) b) true (jae l n)) (jae l n)=_
 simp only[jah,jqj]
 by_cases h1:a<=n
 .by_cases h2:n+1<=b
  .rw [if_pos h1,if_pos h2,if_pos ⟨h1,h2⟩]
  .rw [if_pos h1,if_neg h2,if_neg (fun h=>h2 h.2)]
 .rw [if_neg h1,if_neg (fun h=>h1 h.1)]
theorem jo7 {n:Nat} {hid:List (Nat×Nat)} (k:Ok h):(h.hide lo hid).get n=if jae hid n=true then none else h.get n:=by
 rw[Hp.get_eq,Hp.get_eq,k.hid];rfl
theorem jrl {cs:List SV} {ty:TypeId} {f:Nat->Hp->Option β} (k:Ok h):nw h cs ty f=f h.next (h.push (.arr cs ty)):=by
 cases h with
 | mk n t lo hid =>
  obtain rfl:hid=[]:=k.hid
  rfl
def rdB (x:Option AB) (off n:Nat):Option (List SV):=ob x (fun x=>AB.casesOn (motive:=fun _=>Option (List SV)) x (fun cs _=>ja4 n (jbm off cs)) (fun _ _=>none))
theorem jds {cs:List SV} {ty:TypeId} {off n:Nat}:rdB (some (.arr cs ty)) off n=ja4 n (jbm off cs):=rfl
def wrB (h:Hp) (b:Nat) (x:Option AB) (off:Nat) (xs:List SV):Option Hp:=ob x (fun x=>AB.casesOn (motive:=fun _=>Option Hp) x (fun cs ty=>ob (jbg off xs cs) (fun cs'=>some (h.put b (some (.arr cs' ty))))) (fun _ _=>none))
theorem j74 {b off:Nat} (k:Ok h):wr h b off xs=wrB h b (h.get b) off xs:=by
 show oif (Nat.ble h.lo b) _ none=_
 rw[k.lo];rfl
theorem js7 {b:Nat} {cs:List SV} {ty:TypeId} {off:Nat}:wrB h b (some (.arr cs ty)) off xs=ob (jbg off xs cs) (fun cs'=>some (h.put b (some (.arr cs' ty)))):=rfl
def jjn (h:Hp) (n:Nat) (agg:Bool) (v:AV):Option AV:=jc1 v (fun b off=>ob (rd h b off n) (fun cs=>jdf agg cs)) (fun cs=>ob (ja4 n cs) (fun cs=>jdf agg cs))
theorem j5b {α γ:Type} {x:Option α} {f:α->Option β} {g:β->Option γ}:ob (ob x f) g=ob x (fun a=>ob (f a) g):=by cases x<;>rfl
theorem ju7 {n:Nat} {x:Od}:jca st fr h (.load n agg x)=ob (ev st fr x) (fun v=>ob (jjn h n agg v) (fun v=>ok v h)):=by
 show ob (ev st fr x) (fun v=>jc1 v (fun b off=>ob (rd h b off n) (fun cs=>ob (jdf agg cs) (fun v=>ok v h))) (fun cs=>ob (ja4 n cs) (fun cs=>ob (jdf agg cs) (fun v=>ok v h))))=_
 congr 1
 funext v
 cases v with
 | s v=>cases v<;>first | rfl | (show ob _ _=ob (ob _ _) _;rw[j5b])
 | _=>rfl
def jy4 (h:Hp) (n:Nat) (p v:AV):R:=jn6 p (fun b off=>cel v (fun cs=>oif (Nat.beq (jbu cs) n) (ob (wr h b off cs) (fun h=>ok .undef h)) none))
theorem j2d {b:Nat} {v:SV} (k:Ok h):jy4 h 1 (.s (.ptr b o)) (.s v)=ob (wrB h b (h.get b) o [v]) (fun h=>ok .undef h):=by
 show ob (wr h b o [v]) _=_
 rw[j74 k]
theorem jwm {n b:Nat} {cs:List SV} (k:Ok h) (hn:cs.length=n):jy4 h n (.s (.ptr b o)) (.agg cs)=ob (wrB h b (h.get b) o cs) (fun h=>ok .undef h):=by
 show oif (Nat.beq (jbu cs) n) (ob (wr h b o cs) _) none=_
 rw[j74 k,jao,hn,f1f];rfl
theorem j5c {e:TypeId} (k:Ok h):jca st fr h (.new e z)=some (.s (.ptr h.next 0),h.push (.arr z e)):=by
 show nw h z e (fun n h=>ok (.s (.ptr n 0)) h)=_
 rw[jrl k];rfl
theorem j5d {e:TypeId} {x:Od} (k:Ok h):jca st fr h (.box e x)=ob (ev st fr x) (fun v=>cel v (fun cs=>some (.s (.ptr h.next 0),h.push (.arr cs e)))):=by
 show ob (ev st fr x) (fun v=>cel v (fun cs=>nw h cs e (fun n h=>ok (.s (.ptr n 0)) h)))=_
 congr 1;funext v;congr 1;funext cs;rw[jrl k];rfl
theorem jwn {e:TypeId} {size:Nat} {len:Nat} {ps:List (Nat×Nat×Od)} (k:Ok h):jca st fr h (.bslice e size z len ps)=ob (fill st fr ps z) (fun cs=>some (.s (.slice h.next 0 len len true size),h.push (.arr cs e))):=by
 show ob (fill st fr ps z) (fun cs=>nw h cs e (fun n h=>ok (.s (.slice n 0 len len true size)) h))=_
 congr 1;funext cs;rw[jrl k];rfl
def j6q (h:Hp) (e:TypeId) (size bytes:Nat) (z:List SV) (l c:AV):R:=j27 l (fun m=>j27 c (fun k=>oif (Nat.ble m k) (oif (Nat.ble (Nat.mul bytes k) 1000000000) (oif (Nat.ble k 1000000000) (nw h (rep z k) e (fun b h=>ok (.s (.slice b 0 m k true size)) h)) none) none) none))
theorem j5e {e:TypeId} {size:Nat} {m:Nat} (k:Ok h) (h1:bytes*m<=1000000000) (h2:m<=1000000000):j6q h e size bytes z (vi m) (vi m)=some (.s (.slice h.next 0 m m true size),h.push (.arr (rep z m) e)):=by
 show oif (Nat.ble m m) (oif (Nat.ble (Nat.mul bytes m) 1000000000) (oif (Nat.ble m 1000000000) (nw h (rep z m) e _) none) none) none=_
 rw[jrl k,jct (f0b m),jct h2,show Nat.ble (Nat.mul bytes m) 1000000000=true from jct h1];rfl
def jwo (size:Nat) (v w:AV):Option AV:=jbh v none (fun b off len _ _ _=>jg1 w len (fun m=>some (.s (.ptr b (Nat.add off (Nat.mul m size))))))
 (fun rows=>jg1 w (jbu rows) (fun m=>ob (jcq rows m) (fun row=>oif (Nat.beq (jbu row) size) (some (.s (.cp row))) none))) none
theorem jfi {m n:Nat} {f:Nat->Option β} (hm:m<n):jg1 (vi (m:Int)) n f=f m:=by
 show oif (Nat.ble (Nat.succ m) n) (f m) none=_
 rw[jct (show Nat.succ m<=n from hm)];rfl
theorem jch {size b off len mc sz m:Nat} {ex:Bool} (hm:m<len):jwo size (.s (.slice b off len mc ex sz)) (vi (m:Int))=some (.s (.ptr b (off+m*size))):=jfi (f:=fun m=>some (AV.s (.ptr b (Nat.add off (Nat.mul m size))))) hm
theorem jgr {size b off len mc sz:Nat} {ex:Bool} (hm:0<len):jwo size (.s (.slice b off len mc ex sz)) (vi 0)=some (.s (.ptr b off)):=by
 have:=jfi (f:=fun m=>some (AV.s (.ptr b (Nat.add off (Nat.mul m size))))) hm
 refine this.trans ?_
 show some (AV.s (.ptr b (off+0*size)))=_
 rw[f1r,f1g]
theorem j2e {size m:Nat} (hr:rows[m]?=some row) (hl:row.length=size):jwo size (.s (.lst rows)) (vi (m:Int))=some (.s (.cp row)):=by
 have hm:m<rows.length:=by
  rcases f0e m rows.length with h | h
  .exact h
  .rw [f0m h] at hr;cases hr
 have:=jfi (f:=fun m=>ob (jcq rows m) (fun row=>oif (Nat.beq (jbu row) size) (some (AV.s (.cp row))) none)) (show m<jbu rows by rw[jao];exact hm)
 refine this.trans ?_
 rw[jbp,hr]
 show oif (Nat.beq (jbu row) size) _ none=_
 rw[jao,hl,f1f];rfl
def j3l (n size:Nat) (v w:AV):Option AV:=jc1 v (fun b off=>jg1 w n (fun m=>some (.s (.ptr b (Nat.add off (Nat.mul m size)))))) (fun cs=>jg1 w n (fun m=>some (.s (.cp (jbm (Nat.mul m size) cs)))))
theorem jhl {n size b off m:Nat} (hm:m<n):j3l n size (.s (.ptr b off)) (vi (m:Int))=some (.s (.ptr b (off+m*size))):=jfi (f:=fun m=>some (AV.s (.ptr b (Nat.add off (Nat.mul m size))))) hm
theorem jl3 {n size m:Nat} {cs:List SV} (hm:m<n):j3l n size (.s (.cp cs)) (vi (m:Int))=some (.s (.cp (jbm (m*size) cs))):=jfi (f:=fun m=>some (AV.s (.cp (jbm (Nat.mul m size) cs)))) hm
def qaw (h:Hp) (e:TypeId) (size bytes b n m:Nat) (x:Option AB) (new:List SV):R :=
 jg3 bytes (Nat.add n m) (ob x (fun x=>AB.casesOn (motive:=fun _=>R) x (fun cs ty =>
  ob (ja4 (Nat.mul n size) (jbm 0 cs)) (fun old=>(oif (Nat.ble h.lo b) (oif (Nat.beq ty e) (nw (h.put b none) (jeo old new) e (fun k h=>ok (.s (.slice k 0 (Nat.add n m) (Nat.add n m) false size)) h)) none) none))) (fun _ _=>none)))
def jrm (h:Hp) (e:TypeId) (size bytes:Nat) (v w:AV):R:=jbh w (j08 v (ok v h)) (fun b' off' m _ _ _=>ob (rd h b' off' (Nat.mul m size)) (fun new=>jr7 h e size bytes m v new))
 (fun rows=>ob (jqh size rows) (fun new=>jr7 h e size bytes (jbu rows) v new)) (j08 v (ok v h))
theorem jm1 {e:TypeId} {size b n mc sz:Nat} {ex:Bool}:jrm h e size bytes (.s (.slice b o n mc ex sz)) (.s .nilSlice)=some (.s (.slice b o n mc ex sz),h):=rfl
theorem jm2 {e:TypeId} {size m:Nat}:jrm h e size bytes (.s .nilSlice) (.s (.slice b' o' m mc' ex' sz'))=ob (rdB (h.get b') o' (m*size)) (fun new=>Nat.casesOn (motive:=fun _=>R) m (some (.s .nilSlice,h)) (fun _=>jg3 bytes m (nw h new e (fun k h=>ok (.s (.slice k 0 m m false size)) h)))):=rfl
theorem jjw {n:Nat} {x:R} (h1:n*bytes<=1000000000) (h2:n<=1000000000):jg3 bytes n x=x:=by
 show oif (Nat.ble (Nat.mul n bytes) 1000000000) (oif (Nat.ble n 1000000000) x none) none=_
 rw[show Nat.ble (Nat.mul n bytes) 1000000000=true from jct h1,jct h2];rfl
theorem jjo {e:TypeId} {size b n m:Nat} (hm:1<=m):jrm h e size bytes (.s (.slice b 0 n n false size)) (.s (.slice b' o' m mc' ex' sz'))=ob (rdB (h.get b') o' (m*size)) (fun new=>qaw h e size bytes b n m (h.get b) new):=by
 show ob (rdB (h.get b') o' (m*size)) (fun new=>oif (Nat.beq size size) (oif (Nat.ble (Nat.add n m) n) _ (jg3 bytes (Nat.add n m) (jew h e size b 0 n m false new))) none)=_
 congr 1
 funext new
 have e1:Nat.ble (Nat.add n m) n=false:=by
  cases e:Nat.ble (Nat.add n m) n with
  | false=>rfl
  | true=>rw[jqj] at e;have:n+m<=n:=e;omega
 rw[f1f]
 show oif (Nat.ble (Nat.add n m) n) _ _=_
 rw[e1]
 rfl
theorem j5f {e:TypeId} {size b n m:Nat} {cs new:List SV} (k:Ok h) (hc:cs.length=n*size) (h1:(n+m)*bytes<=1000000000) (h2:n+m<=1000000000) :
 qaw h e size bytes b n m (some (.arr cs e)) new=some (.s (.slice h.next 0 (n+m) (n+m) false size),(h.put b none).push (.arr (cs++new) e)):=by
 show jg3 bytes (n+m) (ob (ja4 (n*size) cs) (fun old=>oif (Nat.ble h.lo b) (oif (Nat.beq e e) (nw (h.put b none) (jeo old new) e _) none) none))=_
 rw[jjw h1 h2,(jaj _).2 ⟨f11 hc.symm,rfl⟩,←hc,f18]
 show oif (Nat.ble h.lo b) (oif (Nat.beq e e) (nw (h.put b none) (jeo cs new) e _) none) none=_
 rw[k.lo,f1f,jrl (jd7 k),jcb,Hp.next_put]
 rfl
def qbk (v:AV):Option (Bool×List SV):=AV.casesOn (motive:=fun _=>Option (Bool×List SV)) v (fun s=>some (false,[s])) (fun l=>some (true,l)) (fun _=>none) none none
theorem jir:jdy fr h []=some []:=rfl
theorem jc9 {r:IR} {l:List IR}:jdy fr h (r::l)=ob (jjk fr h r) (fun v=>ob (jdy fr h l) (fun x=>some (v::x))):=rfl
theorem jis:jbo (.mk fr h) []=some (.tup [],h):=rfl
theorem jwp {r:IR}:jbo (.mk fr h) [r]=ob (jjk fr h r) (fun p=>ob (jdf p.1 p.2) (fun v=>some (v,h))):=by
 show ob (ob (jjk fr h r) (fun v=>ob (some []) (fun x=>some (v::x)))) (fun vs=>List.casesOn (motive:=fun _=>R) vs (ok (.tup []) h) (fun p r=>List.casesOn (motive:=fun _=>R) r (ob (jdf p.1 p.2) (fun v=>ok v h)) (fun _ _=>ok (.tup vs) h)))=_
 cases jjk fr h r<;>rfl
theorem jwq {r r':IR} {l:List IR}:jbo (.mk fr h) (r::r'::l)=ob (jdy fr h (r::r'::l)) (fun vs=>some (.tup vs,h)):=by
 show ob (jdy fr h (r::r'::l)) (fun vs=>List.casesOn (motive:=fun _=>R) vs (ok (.tup []) h) (fun p r=>List.casesOn (motive:=fun _=>R) r (ob (jdf p.1 p.2) (fun v=>ok v h)) (fun _ _=>ok (.tup vs) h)))=_
 rw[jc9,jc9]
 cases jjk fr h r with
 | none=>rfl
 | some a=>cases jjk fr h r' with
  | none=>rfl
  | some b=>cases jdy fr h l<;>rfl
theorem j5g {v:AV}:ok v h=some (v,h):=rfl
theorem js8 {es:List Ent} {hid:List (Nat×Nat)}:sel es [] hid=some hid:=rfl
theorem jo8 {es:List Ent} {hid:List (Nat×Nat)}:sel es (j::js) hid=ob (jcq es j) (fun e=>ob (sel es js hid) (fun l=>Ent.casesOn (motive:=fun _=>Option (List (Nat×Nat))) e (fun iv _=>some (iv++l)))):=by
 show ob (jcq es j) (fun e=>ob (sel es js hid) (fun l=>Ent.casesOn (motive:=fun _=>Option (List (Nat×Nat))) e (fun iv _=>some (jeo iv l))))=_
 simp only[jcb]
def fpV:AV->List Nat
 | .s (.ptr b _)=>[b]
 | _=>[]
theorem js9 {b:Nat}:fpV (.s (.ptr b o))=[b]:=rfl
theorem jy5 {cs:List SV}:fpV (.s (.cp cs))=[]:=rfl
theorem jrn {es:List Ent} {dst:Option Nat} {n:Nat} {x:Od} {l:List (IOper×Option (List Nat))}:WD F ((.mk dst (.a (.load n agg x)) none,some js)::l) st es fr h Q=obP (sel es js h.hid) (fun hid'=>obP (ev st fr x) (fun p=>obP (jjn (h.hide h.next hid') n agg p) (fun v=>WD F l (v::st) (.mk [] (some (fpV p))::es) (jba fr dst v) h Q))):=by
 cases h with
 | mk k t lo hid =>
 rw[jsv (x:=ob (sel es js hid) (fun hid'=>ob (ev st fr x) (fun p=>ob (jjn (.mk k t k hid') n agg p) (fun v=>some (DR.mk v (.mk k t lo hid) (.mk [] (some (fpV p)))))))) (fun cl=>?_)]
 .refine propext ⟨fun⟨p,h1,h2⟩=>?_,fun⟨hid',h0,q,h1,v,h2,h3⟩=>⟨.mk v (.mk k t lo hid) (.mk [] (some (fpV q))),jaa.2 ⟨hid',h0,jaa.2 ⟨q,h1,jaa.2 ⟨v,h2,rfl⟩⟩⟩,h3⟩⟩
  obtain⟨hid',h3,h4⟩:=jaa.1 h1
  obtain⟨q,h5,h6⟩:=jaa.1 h4
  obtain⟨v,h7,h8⟩:=jaa.1 h6
  cases h8
  exact⟨hid',h3,q,h5,v,h7,h2⟩
 .show ji3 cl st fr es (.mk k t lo hid) (.a (.load n agg x)) js=_
  show ob (sel es js hid) (fun hid'=>Cls.casesOn (motive:=fun _=>Option DR) (jqi (ob (ev st fr x) (fun v=>jc1 v (fun b _=>some (Cls.load b)) (fun _=>some .quiet))) (fun c=>c))
   (jhv cl st fr k t lo k hid hid' (.a (.load n agg x)) (fun n'=>.mk [(k,n')] (some [])))
   (fun x'=>jhv cl st fr k t lo k hid hid' (.a (.load n agg x)) (fun _=>.mk [] (some [x'])))
   (fun b=>oif (jdx es js b) (oif (Nat.ble lo b) (ob (Hp.get (.mk k t lo hid') b) (fun _=>jhv cl st fr k t lo lo hid hid' (.a (.load n agg x)) (fun n'=>.mk [(b,Nat.succ b),(k,n')] none))) none) none)
   (jhv cl st fr k t lo k hid hid' (.a (.load n agg x)) (fun _=>.mk [] (some [])))
   (jhv cl st fr k t lo k hid hid' (.a (.load n agg x)) (fun n'=>.mk [(k,n')] none)))=_
  congr 1
  funext hid'
  have key:∀ e:Nat->Ent,jhv cl st fr k t lo k hid hid' (.a (.load n agg x)) e=ob (ev st fr x) (fun p=>ob (jjn (.mk k t k hid') n agg p) (fun v=>some (DR.mk v (.mk k t lo hid) (e k)))):=fun e=>by
   show ob (aop cl st fr (.mk k t k hid') (.load n agg x)) _=_
   rw[jgl (show AO.calls (.load n agg x)=false from rfl),ju7]
   cases ev st fr x with
   | none=>rfl
   | some p =>
    show ob (ob (jjn (.mk k t k hid') n agg p) _) _=ob (jjn (.mk k t k hid') n agg p) _
    cases jjn (.mk k t k hid') n agg p<;>rfl
  have k1:=key (fun n'=>.mk [(k,n')] none)
  have k3:=key (fun _=>.mk [] (some []))
  have k2:=fun b=>key (fun _=>.mk [] (some [b]))
  cases hx:ev st fr x with
  | none =>
   rw[hx] at k1
   exact k1
  | some p =>
   rw[hx] at k1 k3
   simp only[hx] at k2
   cases p with
   | s p =>
    cases p with
    | ptr b o=>exact k2 b
    | cp cs=>exact k3
    | _=>exact k1
   | _=>exact k1
theorem jm3 {es:List Ent} {dst:Option Nat} {e:TypeId} {size:Nat} {len:Nat} {ps:List (Nat×Nat×Od)} {l:List (IOper×Option (List Nat))}:WD F ((.mk dst (.a (.bslice e size z len ps)) none,some js)::l) st es fr h Q=obP (sel es js h.hid) (fun hid'=>obP (fill st fr ps z) (fun cs=>jae hid' h.next=false/\WD F l (.s (.slice h.next 0 len len true size)::st) (.mk [(h.next,h.next+1)] (some [])::es) (jba fr dst (.s (.slice h.next 0 len len true size))) (h.push (.arr cs e)) Q)):=by
 cases h with
 | mk k t lo hid =>
 rw[jsv (x:=ob (sel es js hid) (fun hid'=>ob (fill st fr ps z) (fun cs=>oif (jae hid' k) none (some (DR.mk (.s (.slice k 0 len len true size)) ((Hp.mk k t lo hid).push (.arr cs e)) (.mk [(k,k+1)] (some []))))))) (fun cl=>?_)]
 .refine propext ⟨fun⟨p,h1,h2⟩=>?_,fun⟨hid',h0,cs,h1,h2,h3⟩=>⟨DR.mk (.s (.slice k 0 len len true size)) ((Hp.mk k t lo hid).push (.arr cs e)) (.mk [(k,k+1)] (some [])),jaa.2 ⟨hid',h0,jaa.2 ⟨cs,h1,?_⟩⟩,h3⟩⟩
  .obtain ⟨hid',h3,h4⟩:=jaa.1 h1
   obtain⟨cs,h5,h6⟩:=jaa.1 h4
   rw[jah] at h6
   split at h6
   .cases h6
   .rename_i h7
    cases h6
    exact⟨hid',h3,cs,h5,Bool.eq_false_iff.2 h7,h2⟩
  .have h2':jae hid' k=false:=h2
   rw[h2'];rfl
 .show ji3 cl st fr es (.mk k t lo hid) (.a (.bslice e size z len ps)) js=_
  show ob (sel es js hid) (fun hid'=>ob (ob (fill st fr ps z) (fun cs=>oif (jae hid' k) none (ok (.s (.slice k 0 len len true size)) (Hp.mk (Nat.succ k) (t.put (Nat.succ k) k (some (.arr cs e))) k hid')))) (fun p=>Hp.casesOn (motive:=fun _=>Option DR) p.2 (fun n' t' _ _=>some (.mk p.1 (.mk n' t' lo hid) (.mk [(k,n')] (some []))))))=_
  congr 1
  funext hid'
  cases fill st fr ps z with
  | none=>rfl
  | some cs =>
   show ob (oif (jae hid' k) none _) _=oif (jae hid' k) none _
   cases jae hid' k<;>rfl
end
section
variable {F:Fns} {s:St} {st fr:List AV} {h h':Hp} {Q:Ex->St->Prop} {l:List IOper} {dst:Option Nat} {v w:AV} {m:List (IOper×Option (List Nat))} {es:List Ent}
def zpO (F:Fns) (x:Option AV) (dst:Option Nat) (l:List IOper) (st fr:List AV) (h:Hp) (Q:Ex->St->Prop):Prop:=obP x (fun v=>WO F l (v::st) (jba fr dst v) h Q)
theorem jo9:zpO F (some v) dst l st fr h Q=WO F l (v::st) (jba fr dst v) h Q:=ja0
def zmO (F:Fns) (x:R) (dst:Option Nat) (l:List IOper) (st fr:List AV) (Q:Ex->St->Prop):Prop:=obP x (fun p=>WO F l (p.1::st) (jba fr dst p.1) p.2 Q)
theorem jpa:zmO F (some (v,h)) dst l st fr Q=WO F l (v::st) (jba fr dst v) h Q:=ja0
def j5h (F:Fns) (dst:Option Nat) (l:List IOper) (st fr:List AV) (Q:Ex->St->Prop) (v:AV) (h:Hp):Prop:=WO F l (v::st) (jba fr dst v) h Q
theorem jpb:j5h F dst l st fr Q v h=WO F l (v::st) (jba fr dst v) h Q:=rfl
def zkO (F:Fns) (x:Option (List AV)) (f:FuncId) (dst:Option Nat) (l:List IOper) (st fr:List AV) (h:Hp) (Q:Ex->St->Prop):Prop:=obP x (fun vs=>WC F f vs h (j5h F dst l st fr Q))
theorem jpc {f:FuncId}:zkO F (some vs) f dst l st fr h Q=WC F f vs h (j5h F dst l st fr Q):=ja0
def zgO (F:Fns) (x:Option AV) (t:Bool) (dst:Option Nat) (op:IOp) (l:List IOper) (st fr:List AV) (h:Hp) (Q:Ex->St->Prop):Prop:=gP x t (WO F (.mk dst op none::l) st fr h Q) (WO F l (.undef::st) (jba fr dst .undef) h Q)
theorem jpd {b:Bool} {op:IOp}:zgO F (some (.s (.bool b))) t dst op l st fr h Q=if b=t then WO F (.mk dst op none::l) st fr h Q else WO F l (.undef::st) (jba fr dst .undef) h Q:=jyq
theorem jl4 {op:IOp}:zgO F (some .undef) t dst op l st fr h Q=WO F l (.undef::st) (jba fr dst .undef) h Q:=ju5
def zcO (F:Fns) (x:Option AV) (a b:IC) (fr:List AV) (h:Hp) (Q:Ex->St->Prop):Prop:=j9r x (W F a (.mk fr h) Q) (W F b (.mk fr h) Q)
theorem jpe {b:Bool} {x y:IC}:zcO F (some (.s (.bool b))) x y fr h Q=if b=true then W F x (.mk fr h) Q else W F y (.mk fr h) Q:=jyl
theorem jta {c:Od} {x y:IC}:W F (.cond c x y) (.mk fr h) Q=zcO F (ev [] fr c) x y fr h Q:=j70
theorem jtb {o:PO}:WO F (.mk dst (.p o) none::l) st fr h Q=zpO F (pop st fr o) dst l st fr h Q:=j43
theorem jtc {f:FuncId} {as:List Od}:WO F (.mk dst (.a (.call f as)) none::l) st fr h Q=zkO F (evs st fr as) f dst l st fr h Q:=j44
theorem jpf {op:IOp}:WO F (.mk dst op (some (i,t))::l) st fr h Q=zgO F (jcq st i) t dst op l st fr h Q:=j18
def zpD (F:Fns) (x:Option AV) (e:Ent) (dst:Option Nat) (m:List (IOper×Option (List Nat))) (st:List AV) (es:List Ent) (fr:List AV) (h:Hp) (Q:Ex->St->Prop):Prop:=obP x (fun v=>WD F m (v::st) (e::es) (jba fr dst v) h Q)
theorem jpg {e:Ent}:zpD F (some v) e dst m st es fr h Q=WD F m (v::st) (e::es) (jba fr dst v) h Q:=ja0
def zmD (F:Fns) (x:R) (dst:Option Nat) (m:List (IOper×Option (List Nat))) (st:List AV) (es:List Ent) (fr:List AV) (Q:Ex->St->Prop):Prop:=obP x (fun p=>WD F m (p.1::st) (.mk [] (some [])::es) (jba fr dst p.1) p.2 Q)
theorem jph:zmD F (some (v,h)) dst m st es fr Q=WD F m (v::st) (.mk [] (some [])::es) (jba fr dst v) h Q:=ja0
def j5i (F:Fns) (dst:Option Nat) (m:List (IOper×Option (List Nat))) (st:List AV) (es:List Ent) (fr:List AV) (Q:Ex->St->Prop) (v:AV) (h:Hp):Prop:=WD F m (v::st) (.mk [] (some [])::es) (jba fr dst v) h Q
theorem jpi:j5i F dst m st es fr Q v h=WD F m (v::st) (.mk [] (some [])::es) (jba fr dst v) h Q:=rfl
def zkD (F:Fns) (x:Option (List AV)) (f:FuncId) (dst:Option Nat) (m:List (IOper×Option (List Nat))) (st:List AV) (es:List Ent) (fr:List AV) (h:Hp) (Q:Ex->St->Prop):Prop:=obP x (fun vs=>WC F f vs h (j5i F dst m st es fr Q))
theorem jpj {f:FuncId}:zkD F (some vs) f dst m st es fr h Q=WC F f vs h (j5i F dst m st es fr Q):=ja0
def zgD (F:Fns) (x:Option AV) (t:Bool) (dst:Option Nat) (op:IOp) (o:Option (List Nat)) (m:List (IOper×Option (List Nat))) (st:List AV) (es:List Ent) (fr:List AV) (h:Hp) (Q:Ex->St->Prop):Prop:=gP x t (WD F ((.mk dst op none,o)::m) st es fr h Q) (WD F m (.undef::st) (.mk [] (some [])::es) (jba fr dst .undef) h Q)
theorem jpk {b:Bool} {op:IOp} {o:Option (List Nat)}:zgD F (some (.s (.bool b))) t dst op o m st es fr h Q=if b=t then WD F ((.mk dst op none,o)::m) st es fr h Q else WD F m (.undef::st) (.mk [] (some [])::es) (jba fr dst .undef) h Q:=jyq
theorem jl5 {op:IOp} {o:Option (List Nat)}:zgD F (some .undef) t dst op o m st es fr h Q=WD F m (.undef::st) (.mk [] (some [])::es) (jba fr dst .undef) h Q:=ju5
theorem jtd {o:PO}:WD F ((.mk dst (.p o) none,none)::m) st es fr h Q=zpD F (pop st fr o) (.mk [] (some [])) dst m st es fr h Q:=j45
theorem jte {f:FuncId} {as:List Od}:WD F ((.mk dst (.a (.call f as)) none,none)::m) st es fr h Q=zkD F (evs st fr as) f dst m st es fr h Q:=j46
theorem jpl {op:IOp} {o:Option (List Nat)}:WD F ((.mk dst op (some (i,t)),o)::m) st es fr h Q=zgD F (jcq st i) t dst op o m st es fr h Q:=j19
def qax (F:Fns) (x:Option (List (Nat×Nat))) (o:Option AV) (dst:Option Nat) (m:List (IOper×Option (List Nat))) (st:List AV) (es:List Ent) (fr:List AV) (h:Hp) (Q:Ex->St->Prop):Prop:=obP x (fun _=>zpD F o (.mk [(h.next,h.next)] (some [])) dst m st es fr h Q)
theorem jl6 {x:List (Nat×Nat)} {o:Option AV}:qax F (some x) o dst m st es fr h Q=zpD F o (.mk [(h.next,h.next)] (some [])) dst m st es fr h Q:=ja0
theorem jfj {o:PO}:WD F ((.mk dst (.p o) none,some js)::m) st es fr h Q=qax F (sel es js h.hid) (pop st fr o) dst m st es fr h Q:=jri
def j9y (F:Fns) (x:Option (List (Nat×Nat))) (n:Nat) (agg:Bool) (p:Option AV) (dst:Option Nat) (m:List (IOper×Option (List Nat))) (st:List AV) (es:List Ent) (fr:List AV) (h:Hp) (Q:Ex->St->Prop):Prop:=obP x (fun hid'=>obP p (fun p=>zpD F (jjn (h.hide h.next hid') n agg p) (.mk [] (some (fpV p))) dst m st es fr h Q))
theorem jl7 {x:List (Nat×Nat)} {n:Nat}:j9y F (some x) n agg (some w) dst m st es fr h Q=zpD F (jjn (h.hide h.next x) n agg w) (.mk [] (some (fpV w))) dst m st es fr h Q:=by
 unfold j9y;rw[ja0,ja0]
theorem jfk {n:Nat} {x:Od}:WD F ((.mk dst (.a (.load n agg x)) none,some js)::m) st es fr h Q=j9y F (sel es js h.hid) n agg (ev st fr x) dst m st es fr h Q:=jrn
def j8z (F:Fns) (x:Option (List (Nat×Nat))) (cs:Option (List SV)) (e:TypeId) (size len:Nat) (dst:Option Nat) (m:List (IOper×Option (List Nat))) (st:List AV) (es:List Ent) (fr:List AV) (h:Hp) (Q:Ex->St->Prop):Prop:=obP x (fun hid'=>obP cs (fun cs=>jae hid' h.next=false/\WD F m (.s (.slice h.next 0 len len true size)::st) (.mk [(h.next,h.next+1)] (some [])::es) (jba fr dst (.s (.slice h.next 0 len len true size))) (h.push (.arr cs e)) Q))
theorem jhm {x:List (Nat×Nat)} {cs:List SV} {e:TypeId} {size len:Nat} (hx:jae x h.next=false):j8z F (some x) (some cs) e size len dst m st es fr h Q=WD F m (.s (.slice h.next 0 len len true size)::st) (.mk [(h.next,h.next+1)] (some [])::es) (jba fr dst (.s (.slice h.next 0 len len true size))) (h.push (.arr cs e)) Q:=by
 unfold j8z;rw[ja0,ja0];exact propext ⟨fun h=>h.2,fun h=>⟨hx,h⟩⟩
theorem jtf {cs:List SV} {e:TypeId} {size len:Nat}:j8z F (some []) (some cs) e size len dst m st es fr h Q=WD F m (.s (.slice h.next 0 len len true size)::st) (.mk [(h.next,h.next+1)] (some [])::es) (jba fr dst (.s (.slice h.next 0 len len true size))) (h.push (.arr cs e)) Q:=jhm rfl
theorem jdt {e:TypeId} {size:Nat} {len:Nat} {ps:List (Nat×Nat×Od)}:WD F ((.mk dst (.a (.bslice e size z len ps)) none,some js)::m) st es fr h Q=j8z F (sel es js h.hid) (fill st fr ps z) e size len dst m st es fr h Q:=jm3
def qbl (F:Fns) (x:Option (List (Nat×Nat))) (u:AV) (dst:Option Nat) (m:List (IOper×Option (List Nat))) (st:List AV) (es:List Ent) (fr:List AV) (h:Hp) (Q:Ex->St->Prop):Prop:=obP x (fun _=>WD F m (u::st) (.mk [(h.next,h.next)] none::es) (jba fr dst u) h Q)
theorem jl8 {x:List (Nat×Nat)} {u:AV}:qbl F (some x) u dst m st es fr h Q=WD F m (u::st) (.mk [(h.next,h.next)] none::es) (jba fr dst u) h Q:=ja0
theorem jy6 {e:TypeId}:WO F (.mk dst (.a (.new e z)) none::l) st fr h Q=zmO F (jca st fr h (.new e z)) dst l st fr Q:=jdl rfl
theorem jy7 {e:TypeId}:WD F ((.mk dst (.a (.new e z)) none,none)::m) st es fr h Q=zmD F (jca st fr h (.new e z)) dst m st es fr Q:=jdm rfl
theorem jy8 {e:TypeId} {x:Od}:WO F (.mk dst (.a (.box e x)) none::l) st fr h Q=zmO F (jca st fr h (.box e x)) dst l st fr Q:=jdl rfl
theorem jy9 {e:TypeId} {x:Od}:WD F ((.mk dst (.a (.box e x)) none,none)::m) st es fr h Q=zmD F (jca st fr h (.box e x)) dst m st es fr Q:=jdm rfl
theorem jl9 {e:TypeId} {size:Nat} {len:Nat} {ps:List (Nat×Nat×Od)}:WO F (.mk dst (.a (.bslice e size z len ps)) none::l) st fr h Q=zmO F (jca st fr h (.bslice e size z len ps)) dst l st fr Q:=jdl rfl
theorem jma {e:TypeId} {size:Nat} {len:Nat} {ps:List (Nat×Nat×Od)}:WD F ((.mk dst (.a (.bslice e size z len ps)) none,none)::m) st es fr h Q=zmD F (jca st fr h (.bslice e size z len ps)) dst m st es fr Q:=jdm rfl
theorem jit {e:TypeId} {size:Nat} {x y:Od}:WO F (.mk dst (.a (.mkslice e size bytes z x y)) none::l) st fr h Q=zmO F (jca st fr h (.mkslice e size bytes z x y)) dst l st fr Q:=jdl rfl
theorem jiu {e:TypeId} {size:Nat} {x y:Od}:WD F ((.mk dst (.a (.mkslice e size bytes z x y)) none,none)::m) st es fr h Q=zmD F (jca st fr h (.mkslice e size bytes z x y)) dst m st es fr Q:=jdm rfl
theorem jtg {n:Nat} {x:Od}:WO F (.mk dst (.a (.load n agg x)) none::l) st fr h Q=zmO F (jca st fr h (.load n agg x)) dst l st fr Q:=jdl rfl
theorem jth {n:Nat} {x:Od}:WD F ((.mk dst (.a (.load n agg x)) none,none)::m) st es fr h Q=zmD F (jca st fr h (.load n agg x)) dst m st es fr Q:=jdm rfl
theorem jpm {n:Nat} {x y:Od}:WO F (.mk dst (.a (.store n x y)) none::l) st fr h Q=zmO F (jca st fr h (.store n x y)) dst l st fr Q:=jdl rfl
theorem jpn {n:Nat} {x y:Od}:WD F ((.mk dst (.a (.store n x y)) none,none)::m) st es fr h Q=zmD F (jca st fr h (.store n x y)) dst m st es fr Q:=jdm rfl
theorem jza {e:TypeId} {size:Nat} {x y:Od}:WO F (.mk dst (.a (.app e size bytes x y)) none::l) st fr h Q=zmO F (jca st fr h (.app e size bytes x y)) dst l st fr Q:=jdl rfl
theorem jzb {e:TypeId} {size:Nat} {x y:Od}:WD F ((.mk dst (.a (.app e size bytes x y)) none,none)::m) st es fr h Q=zmD F (jca st fr h (.app e size bytes x y)) dst m st es fr Q:=jdm rfl
theorem jti {size:Nat} {x y:Od}:WO F (.mk dst (.a (.copy size x y)) none::l) st fr h Q=zmO F (jca st fr h (.copy size x y)) dst l st fr Q:=jdl rfl
theorem jtj {size:Nat} {x y:Od}:WD F ((.mk dst (.a (.copy size x y)) none,none)::m) st es fr h Q=zmD F (jca st fr h (.copy size x y)) dst m st es fr Q:=jdm rfl
theorem jpo {x:Od}:WO F (.mk dst (.a (.clear z x)) none::l) st fr h Q=zmO F (jca st fr h (.clear z x)) dst l st fr Q:=jdl rfl
theorem jpp {x:Od}:WD F ((.mk dst (.a (.clear z x)) none,none)::m) st es fr h Q=zmD F (jca st fr h (.clear z x)) dst m st es fr Q:=jdm rfl
theorem jpq:WO F (.mk dst (.a (.mkmap va)) none::l) st fr h Q=zmO F (jca st fr h (.mkmap va)) dst l st fr Q:=jdl rfl
theorem jpr:WD F ((.mk dst (.a (.mkmap va)) none,none)::m) st es fr h Q=zmD F (jca st fr h (.mkmap va)) dst m st es fr Q:=jdm rfl
theorem jtk {x k:Od}:WO F (.mk dst (.a (.look sig va z okf x k)) none::l) st fr h Q=zmO F (jca st fr h (.look sig va z okf x k)) dst l st fr Q:=jdl rfl
theorem jtl {x k:Od}:WD F ((.mk dst (.a (.look sig va z okf x k)) none,none)::m) st es fr h Q=zmD F (jca st fr h (.look sig va z okf x k)) dst m st es fr Q:=jdm rfl
theorem jtm {x k y:Od}:WO F (.mk dst (.a (.mupd sig va x k y)) none::l) st fr h Q=zmO F (jca st fr h (.mupd sig va x k y)) dst l st fr Q:=jdl rfl
theorem jtn {x k y:Od}:WD F ((.mk dst (.a (.mupd sig va x k y)) none,none)::m) st es fr h Q=zmD F (jca st fr h (.mupd sig va x k y)) dst m st es fr Q:=jdm rfl
theorem jmb {n size:Nat} {x:Od}:WO F (.mk dst (.a (.slicea n size x)) none::l) st fr h Q=zmO F (jca st fr h (.slicea n size x)) dst l st fr Q:=jdl rfl
theorem jmc {n size:Nat} {x:Od}:WD F ((.mk dst (.a (.slicea n size x)) none,none)::m) st es fr h Q=zmD F (jca st fr h (.slicea n size x)) dst m st es fr Q:=jdm rfl
theorem jto {size:Nat} {x:Od}:WO F (.mk dst (.a (.boxc size x)) none::l) st fr h Q=zmO F (jca st fr h (.boxc size x)) dst l st fr Q:=jdl rfl
theorem jtp {size:Nat} {x:Od}:WD F ((.mk dst (.a (.boxc size x)) none,none)::m) st es fr h Q=zmD F (jca st fr h (.boxc size x)) dst m st es fr Q:=jdm rfl
def qay (o:BO) (x y:Option AV):Option AV:=ob x (fun a=>ob y (fun b=>svc none a (fun a=>svc none b (fun b=>jc2 o a b))))
theorem jzc {o:BO} {x y:Od}:pop st fr (.bin o x y)=qay o (ev st fr x) (ev st fr y):=rfl
theorem jmd {o:BO} {a b:SV}:qay o (some (.s a)) (some (.s b))=jc2 o a b:=rfl
def j9z (off:Nat) (x:Option AV):Option AV:=ob x (fun v=>jc1 v (fun b o=>some (.s (.ptr b (o+off)))) (fun cs=>some (.s (.cp (jbm off cs)))))
theorem jzd {off:Nat} {x:Od}:pop st fr (.fld off x)=j9z off (ev st fr x):=rfl
theorem jps {off b:Nat}:j9z off (some (.s (.ptr b o)))=some (.s (.ptr b (o+off))):=rfl
theorem jtq {off:Nat} {cs:List SV}:j9z off (some (.s (.cp cs)))=some (.s (.cp (jbm off cs))):=rfl
def j5j (x:Option AV):Option AV:=ob x (fun v=>jc1 v (fun b o=>some (.s (.ptr b o))) (fun cs=>some (.s (.cp cs))))
theorem jtr {x:Od}:pop st fr (.nchk x)=j5j (ev st fr x):=rfl
theorem jme {b:Nat}:j5j (some (.s (.ptr b o)))=some (.s (.ptr b o)):=rfl
theorem jpt {cs:List SV}:j5j (some (.s (.cp cs)))=some (.s (.cp cs)):=rfl
def qaz (x:Option AV):Option AV:=ob x js2
theorem jze {x:Od}:pop st fr (.len x)=qaz (ev st fr x):=rfl
theorem jmf:qaz (some v)=js2 v:=rfl
def qa0 (size:Nat) (x y:Option AV):Option AV:=ob x (fun v=>ob y (fun w=>jwo size v w))
theorem jzf {size:Nat} {x i:Od}:pop st fr (.ixs size x i)=qa0 size (ev st fr x) (ev st fr i):=rfl
theorem jmg {size:Nat}:qa0 size (some v) (some w)=jwo size v w:=rfl
def qa1 (n size:Nat) (x y:Option AV):Option AV:=ob x (fun v=>ob y (fun w=>j3l n size v w))
theorem jzg {n size:Nat} {x i:Od}:pop st fr (.ixa n size x i)=qa1 n size (ev st fr x) (ev st fr i):=rfl
theorem jmh {n size:Nat}:qa1 n size (some v) (some w)=j3l n size v w:=rfl
def j75 (x:Option AV) (a b:Od) (st fr:List AV):Option AV:=ob x (fun v=>jgz v (fun t=>ev st fr (oif t a b)))
theorem jts {c a b:Od}:pop st fr (.pick c a b)=j75 (ev st fr c) a b st fr:=rfl
theorem jiv {a b:Od}:j75 (some (.s (.bool t))) a b st fr=if t=true then ev st fr a else ev st fr b:=by cases t<;>rfl
def qa2 (i:Nat) (x:Option AV):Option AV:=ob x (fun v=>AV.casesOn (motive:=fun _=>Option AV) v (fun _=>none) (fun _=>none) (fun l=>ob (jcq l i) (fun p=>jdf p.1 p.2)) none none)
theorem jzh {x:Od}:pop st fr (.ext i x)=qa2 i (ev st fr x):=rfl
def mk1 (p:Option (Bool×List SV)):Option AV:=ob p (fun p=>jdf p.1 p.2)
theorem jpu {a:Bool} {l:List SV}:mk1 (some (a,l))=jdf a l:=rfl
theorem jpv {l:List (Bool×List SV)}:qa2 i (some (.tup l))=mk1 (jcq l i):=rfl
def ldR (h:Hp) (agg:Bool) (cs:Option (List SV)):R:=ob cs (fun cs=>ob (jdf agg cs) (fun v=>ok v h))
theorem j5k {cs:List SV}:ldR h true (some cs)=some (.agg cs,h):=rfl
theorem j5l {a:SV}:ldR h false (some [a])=some (.s a,h):=rfl
def j5m (h:Hp) (n:Nat) (agg:Bool) (x:Option AV):R:=ob x (fun v=>ob (jjn h n agg v) (fun v=>ok v h))
theorem jtt {n:Nat} {x:Od}:jca st fr h (.load n agg x)=j5m h n agg (ev st fr x):=ju7
theorem jmi {n b:Nat}:j5m h n agg (some (.s (.ptr b o)))=ldR h agg (rdB (h.get b) o n):=by
 show ob (ob (rdB (h.get b) o n) _) _=_
 rw[j5b];rfl
theorem jpw {n:Nat} {cs:List SV}:j5m h n agg (some (.s (.cp cs)))=ldR h agg (ja4 n cs):=by
 show ob (ob (ja4 n cs) _) _=_
 rw[j5b];rfl
def jga (h:Hp) (n:Nat) (x y:Option AV):R:=ob x (fun p=>ob y (fun v=>jy4 h n p v))
theorem jpx {n:Nat} {x v:Od}:jca st fr h (.store n x v)=jga h n (ev st fr x) (ev st fr v):=rfl
def stR (h:Option Hp):R:=ob h (fun h=>ok .undef h)
theorem jpy:stR (some h)=some (.undef,h):=rfl
theorem j2f {b:Nat} {x:SV} (k:Ok h):jga h 1 (some (.s (.ptr b o))) (some (.s x))=stR (wrB h b (h.get b) o [x]):=j2d k
theorem jwr {n b:Nat} {cs:List SV} (k:Ok h) (hn:cs.length=n):jga h n (some (.s (.ptr b o))) (some (.agg cs))=stR (wrB h b (h.get b) o cs):=jwm k hn
def qa3 (h:Hp) (e:TypeId) (size bytes:Nat) (x y:Option AV):R:=ob x (fun v=>ob y (fun w=>jrm h e size bytes v w))
theorem jzi {e:TypeId} {size:Nat} {x y:Od}:jca st fr h (.app e size bytes x y)=qa3 h e size bytes (ev st fr x) (ev st fr y):=rfl
theorem jmj {e:TypeId} {size:Nat}:qa3 h e size bytes (some v) (some w)=jrm h e size bytes v w:=rfl
def bsO (h:Hp) (e:TypeId) (size len:Nat) (x:Option (List SV)):R:=ob x (fun cs=>some (.s (.slice h.next 0 len len true size),h.push (.arr cs e)))
theorem jpz {e:TypeId} {size len:Nat} {cs:List SV}:bsO h e size len (some cs)=some (.s (.slice h.next 0 len len true size),h.push (.arr cs e)):=rfl
theorem jzj {e:TypeId} {size:Nat} {len:Nat} {ps:List (Nat×Nat×Od)} (k:Ok h):jca st fr h (.bslice e size z len ps)=bsO h e size len (fill st fr ps z):=jwn k
def j80 (h:Hp) (e:TypeId) (x:Option AV):R:=ob x (fun v=>cel v (fun cs=>some (.s (.ptr h.next 0),h.push (.arr cs e))))
theorem j76 {e:TypeId} {x:Od} (k:Ok h):jca st fr h (.box e x)=j80 h e (ev st fr x):=j5d k
theorem jzk {e:TypeId} {x:SV}:j80 h e (some (.s x))=some (.s (.ptr h.next 0),h.push (.arr [x] e)):=rfl
theorem jp0 {e:TypeId} {cs:List SV}:j80 h e (some (.agg cs))=some (.s (.ptr h.next 0),h.push (.arr cs e)):=rfl
def qa4 (h:Hp) (e:TypeId) (size bytes:Nat) (z:List SV) (x y:Option AV):R:=ob x (fun v=>ob y (fun u=>j6q h e size bytes z v u))
theorem jiw {e:TypeId} {size:Nat} {l c:Od}:jca st fr h (.mkslice e size bytes z l c)=qa4 h e size bytes z (ev st fr l) (ev st fr c):=rfl
theorem jmk {e:TypeId} {size:Nat}:qa4 h e size bytes z (some v) (some w)=j6q h e size bytes z v w:=rfl
def re1 (h:Hp) (x:Option (Bool×List SV)):R:=ob x (fun p=>ob (jdf p.1 p.2) (fun v=>some (v,h)))
theorem jzl {r:IR}:jbo (.mk fr h) [r]=re1 h (jjk fr h r):=jwp
theorem j5n {a:SV}:re1 h (some (false,[a]))=some (.s a,h):=rfl
theorem j5o {l:List SV}:re1 h (some (true,l))=some (.agg l,h):=rfl
def reT (g:Option AV):Option (Bool×List SV):=ob g qbk
theorem jzm:jjk fr h (.tmp g)=reT (jcq fr g):=rfl
theorem j5p {x:SV}:reT (some (.s x))=some (false,[x]):=rfl
theorem jtu {x:List SV}:reT (some (.agg x))=some (true,x):=rfl
def reC (h:Hp) (n:Nat) (agg:Bool) (g:Option AV):Option (Bool×List SV):=ob g (fun v=>jn6 v (fun b off=>ob (rdB (h.get b) off n) (fun cs=>some (agg,cs))))
theorem jtv {n:Nat}:jjk fr h (.cell g n agg)=reC h n agg (jcq fr g):=rfl
def reP (agg:Bool) (x:Option (List SV)):Option (Bool×List SV):=ob x (fun cs=>some (agg,cs))
theorem jp1 {cs:List SV}:reP agg (some cs)=some (agg,cs):=rfl
theorem jtw {n b:Nat}:reC h n agg (some (.s (.ptr b o)))=reP agg (rdB (h.get b) o n):=rfl
def j90 (x:R) (Q:AV->Hp->Prop):Prop:=obP x (fun p=>Q p.1 p.2)
theorem jml {Q:AV->Hp->Prop}:j90 (some (v,h)) Q=Q v h:=ja0
theorem jgs {res:List IR} {Q:AV->Hp->Prop}:j9s res Q .normal s=j90 (jbo s res) Q:=rfl
theorem jp2 {res:List IR} {Q:AV->Hp->Prop}:j9s res Q .ret s=j90 (jbo s res) Q:=rfl
def re2 (h:Hp) (x:Option (List (Bool×List SV))):R:=ob x (fun vs=>some (.tup vs,h))
theorem jp3 {l:List (Bool×List SV)}:re2 h (some l)=some (.tup l,h):=rfl
theorem jzn {r r':IR} {k:List IR}:jbo (.mk fr h) (r::r'::k)=re2 h (jdy fr h (r::r'::k)):=jwq
theorem jgt {size b off len mc sz:Nat} {ex:Bool} (hm:1<len):jwo size (.s (.slice b off len mc ex sz)) (vi 1)=some (.s (.ptr b (off+size))):=by
 have:=jch (size:=size) (b:=b) (off:=off) (len:=len) (mc:=mc) (sz:=sz) (ex:=ex) hm
 rw[Nat.one_mul] at this;exact this
theorem jmm {n size b off:Nat} (hm:0<n):j3l n size (.s (.ptr b off)) (vi 0)=some (.s (.ptr b off)):=by
 have:=jhl (n:=n) (size:=size) (b:=b) (off:=off) hm
 rw[f1r,f1g] at this;exact this
theorem jmn {n size b off:Nat} (hm:1<n):j3l n size (.s (.ptr b off)) (vi 1)=some (.s (.ptr b (off+size))):=by
 have:=jhl (n:=n) (size:=size) (b:=b) (off:=off) hm
 rw[Nat.one_mul] at this;exact this
theorem jp4 {n size:Nat} {cs:List SV} (hm:0<n):j3l n size (.s (.cp cs)) (vi 0)=some (.s (.cp cs)):=by
 have:=jl3 (n:=n) (size:=size) (cs:=cs) hm
 rw[f1r] at this;exact this
theorem jp5 {n size:Nat} {cs:List SV} (hm:1<n):j3l n size (.s (.cp cs)) (vi 1)=some (.s (.cp (jbm size cs))):=by
 have:=jl3 (n:=n) (size:=size) (cs:=cs) hm
 rw[Nat.one_mul] at this;exact this
theorem j5q [k:Ok h]:h.hid=[]:=k.hid
theorem jzo [k:Ok h] {n:Nat} {hid:List (Nat×Nat)}:(h.hide lo hid).get n=if jae hid n=true then none else h.get n:=jo7 k
theorem jzp [k:Ok h] {e:TypeId} {size:Nat} {len:Nat} {ps:List (Nat×Nat×Od)}:jca st fr h (.bslice e size z len ps)=bsO h e size len (fill st fr ps z):=jzj k
theorem j5r [k:Ok h] {e:TypeId} {x:Od}:jca st fr h (.box e x)=j80 h e (ev st fr x):=j76 k
theorem jzq [k:Ok h] {e:TypeId}:jca st fr h (.new e z)=some (.s (.ptr h.next 0),h.push (.arr z e)):=j5c k
theorem j5s [k:Ok h] {b:Nat} {x:SV}:jga h 1 (some (.s (.ptr b o))) (some (.s x))=stR (wrB h b (h.get b) o [x]):=j2f k
theorem jro [k:Ok h] {n b:Nat} {cs:List SV} (hn:cs.length=n):jga h n (some (.s (.ptr b o))) (some (.agg cs))=stR (wrB h b (h.get b) o cs):=jwr k hn
theorem jzr [k:Ok h] {b:Nat} {t:SV}:jga h 2 (some (.s (.ptr b o))) (some (.agg [t,u]))=stR (wrB h b (h.get b) o [t,u]):=jro rfl
theorem jzs [k:Ok h] {b:Nat} {t v:SV}:jga h 3 (some (.s (.ptr b o))) (some (.agg [t,u,v]))=stR (wrB h b (h.get b) o [t,u,v]):=jro rfl
theorem jzt [k:Ok h] {b:Nat} {t v w:SV}:jga h 4 (some (.s (.ptr b o))) (some (.agg [t,u,v,w]))=stR (wrB h b (h.get b) o [t,u,v,w]):=jro rfl
theorem jzu [k:Ok h] {b:Nat} {t v w x:SV}:jga h 5 (some (.s (.ptr b o))) (some (.agg [t,u,v,w,x]))=stR (wrB h b (h.get b) o [t,u,v,w,x]):=jro rfl
theorem jzv [k:Ok h] {b:Nat} {t v w x y z:SV}:jga h 7 (some (.s (.ptr b o))) (some (.agg [t,u,v,w,x,y,z]))=stR (wrB h b (h.get b) o [t,u,v,w,x,y,z]):=jro rfl
theorem jzw [k:Ok h] {x:AB} {n:Nat}:(h.push x).get n=if n=h.next then some x else h.get n:=jbz k
theorem jzx [k:Ok h] {b n:Nat} {x:Option AB} (hb:1<=b):(h.put b x).get n=if n=b then x else h.get n:=jbi k hb
def mkL (agg:Bool) (x:Option (List SV)):Option AV:=ob x (fun cs=>jdf agg cs)
theorem j5t {cs:List SV}:mkL true (some cs)=some (.agg cs):=rfl
theorem j5u {a:SV}:mkL false (some [a])=some (.s a):=rfl
theorem jzy {n b:Nat}:jjn h n agg (.s (.ptr b o))=mkL agg (rdB (h.get b) o n):=rfl
theorem j5v {n:Nat} {cs:List SV}:jjn h n agg (.s (.cp cs))=mkL agg (ja4 n cs):=rfl
theorem j5w {a b:Int} (h1:0<=a) (h3:0<b):0<=a % b/\a % b<=a:=by
 have h2:=Int.emod_add_mul_ediv a b
 have h:=Int.ediv_nonneg h1 (Int.le_of_lt h3)
 have h4:=Int.mul_nonneg (Int.le_of_lt h3) h
 exact⟨f2t a (by omega),by omega⟩
theorem jda {a b:Int} (h1:0<=a) (h2:a<=9223372036854775807) (h3:0<b):jc2 .rem (.int .i64 a) (.int .i64 b)=some (vi (a % b)):=by
 have:=j5w h1 h3
 rw[jo6,if_neg (by omega),f15 h1,jei (by omega) (by omega)]
theorem j5x {a b:Int} (h1:-9223372036854775808<=a) (h2:a<=9223372036854775807) (h3:0<b):-9223372036854775808<=a.tdiv b/\a.tdiv b<=9223372036854775807:=by
 have h:=Int.natAbs_tdiv_le_natAbs a b
 rcases(by omega:a<0∨0<=a) with h4 | h4
 .have h5:a.tdiv b<=0:=by
   obtain⟨c,rfl⟩:∃ c,a=-c:=⟨-a,by omega⟩
   rw[Int.neg_tdiv]
   have:=Int.tdiv_nonneg (a:=c) (b:=b) (by omega) (Int.le_of_lt h3)
   omega
  omega
 .omega
theorem jgu {a b:Int} (h1:-9223372036854775808<=a) (h2:a<=9223372036854775807) (h3:0<b):jc2 .quo (.int .i64 a) (.int .i64 b)=some (vi (a.tdiv b)):=by
 have:=j5x h1 h2 h3
 rw[j49,if_neg (by omega),jei this.1 this.2]
theorem jgv {a n:Int} {k:IntKind} (h1:0<=n) (h2:n<=63):jc2 .shr (.int .i64 a) (.int k n)=some (vi (a / 2 ^ n.toNat)):=by
 obtain⟨m,rfl⟩:=Int.eq_ofNat_of_zero_le h1
 exact j5a (by omega)
theorem jp6 {a n:Nat}:(a=a+(n+1))=False:=eq_false (by omega)
theorem jp7 {a n:Nat}:(a+(n+1)=a)=False:=eq_false (by omega)
theorem j2g {e:TypeId} {x:SV} (ok:Ok h) (h1:bytes<=1000):j6q h e 1 bytes [x] (vi 2) (vi 2)=some (.s (.slice h.next 0 2 2 true 1),h.push (.arr [x,x] e)) :=
 j5e (m:=2) ok (by omega) (by omega)
theorem jtx [ok:Ok h] {e:TypeId} {x:SV} (h1:bytes<=1000):j6q h e 1 bytes [x] (vi 2) (vi 2)=some (.s (.slice h.next 0 2 2 true 1),h.push (.arr [x,x] e)):=j2g ok h1
def j5y (F:Fns) (dst:Option Nat) (m:List (IOper×Option (List Nat))) (st:List AV) (es:List Ent) (fr:List AV) (h:Hp) (Q:Ex->St->Prop) (v:AV) (h':Hp):Prop:=WD F m (v::st) (.mk [(h.next,h'.next)] none::es) (jba fr dst v) (.mk h'.next h'.tr h.lo h.hid) Q
def zkH (F:Fns) (x:Option (List (Nat×Nat))) (vs:Option (List AV)) (f:FuncId) (dst:Option Nat) (m:List (IOper×Option (List Nat))) (st:List AV) (es:List Ent) (fr:List AV) (h:Hp) (Q:Ex->St->Prop):Prop:=obP x (fun hid'=>obP vs (fun vs=>WC F f vs (h.hide h.next hid') (j5y F dst m st es fr h Q)))
theorem jp8 {x:List (Nat×Nat)} {f:FuncId}:zkH F (some x) (some vs) f dst m st es fr h Q=WC F f vs (h.hide h.next x) (j5y F dst m st es fr h Q):=by
 unfold zkH;rw[ja0,ja0]
theorem jix {x:List (Nat×Nat)}:j5y F dst m st es fr h Q v (h.hide lo x)=WD F m (v::st) (.mk [(h.next,h.next)] none::es) (jba fr dst v) h Q:=by cases h;rfl
theorem jej {f:FuncId} {as:List Od}:WD F ((.mk dst (.a (.call f as)) none,some js)::m) st es fr h Q=zkH F (sel es js h.hid) (evs st fr as) f dst m st es fr h Q:=by
 cases h with
 | mk k t lo hid =>
 rw[jlg]
 have key:∀ n v h' e,jr2 (jay F (run F n)) st fr es (.mk k t lo hid) (.a (.call f as)) none (some js)=some (.mk v h' e)↔∃ x vs h1,sel es js hid=some x/\evs st fr as=some vs/\jay F (run F n) f vs (.mk k t k x)=some (v,h1)/\h'=.mk h1.next h1.tr lo hid/\e=.mk [(k,h1.next)] none:=fun n v h' e=>by
  have e0:jr2 (jay F (run F n)) st fr es (.mk k t lo hid) (.a (.call f as)) none (some js)=ob (sel es js hid) (fun x=>ob (ob (evs st fr as) (fun vs=>jay F (run F n) f vs (.mk k t k x))) (fun p=>Hp.casesOn (motive:=fun _=>Option DR) p.2 (fun n' t' _ _=>some (.mk p.1 (.mk n' t' lo hid) (.mk [(k,n')] none))))):=rfl
  rw[e0]
  constructor
  .intro h1
   obtain⟨x,hx,h2⟩:=jaa.1 h1
   obtain⟨p,hp,h3⟩:=jaa.1 h2
   obtain⟨vs,hvs,h4⟩:=jaa.1 hp
   obtain⟨v1,⟨n1,t1,l1,d1⟩⟩:=p
   cases h3
   exact⟨x,vs,_,hx,hvs,h4,rfl,rfl⟩
  .rintro ⟨x,vs,⟨n1,t1,l1,d1⟩,hx,hvs,h4,rfl,rfl⟩
   exact jaa.2 ⟨x,hx,jaa.2 ⟨(v,.mk n1 t1 l1 d1),jaa.2 ⟨vs,hvs,h4⟩,rfl⟩⟩
 refine propext ⟨fun⟨n,v,h',e,h1,h2⟩=>?_,fun⟨x,hx,vs,hvs,n,v,h1,h2,h3⟩=>⟨n,v,_,_,(key n v _ _).2 ⟨x,vs,h1,hx,hvs,h2,rfl,rfl⟩,h3⟩⟩
 obtain⟨x,vs,h3,hx,hvs,h4,rfl,rfl⟩:=(key n v h' e).1 h1
 exact⟨x,hx,vs,hvs,n,v,h3,h4,h2⟩
theorem jrp {x:Option AB} {off sz:Nat} {c:SV} (hr:rdB x off sz=some row) (hj:row[j]?=some c):rdB x (off+j) 1=some [c]:=by
 cases x with
 | none=>cases hr
 | some x =>
  cases x with
  | map va es=>cases hr
  | arr cs ty =>
   rw[jds,jbk] at hr ⊢
   obtain⟨h1,rfl⟩:=(jaj _).1 hr
   have hjs:j<sz:=by
    rcases f0e j sz with h | h
    .exact h
    .rw [f0m (by simp;omega)] at hj;cases hj
   have hj2:cs[off+j]?=some c:=by
    rw[f1v,if_pos hjs,f02] at hj;exact hj
   have hl:off+j<cs.length:=by
    rcases f0e (off+j) cs.length with h | h
    .exact h
    .rw [f0m h] at hj2;cases hj2
   refine(jaj _).2 ⟨by simp;omega,?_⟩
   have e:cs.drop (off+j)=c::cs.drop (off+j+1):=by
    rw[f05 hl]
    rw[f0f hl] at hj2
    rw[Option.some.inj hj2]
   rw[e];rfl
def mmV (mx:Bool) (x y:Option AV):Option AV:=ob x (fun a=>ob y (fun b=>jjp a (fun k m=>jjp b (fun k' n=>oif (Nat.beq (ikn k) (ikn k')) (some (.s (.int k (oif (ile m n) (oif mx n m) (oif mx m n))))) none))))
theorem j5z {mx:Bool} {x y:Od}:pop st fr (.mm mx x y)=mmV mx (ev st fr x) (ev st fr y):=rfl
theorem jp9 {a b:Int}:mmV false (some (.s (.int .i64 a))) (some (.s (.int .i64 b)))=some (vi (if a<=b then a else b)):=by
 show some (AV.s (.int .i64 (oif (ile a b) a b)))=_
 rw[jah,jb4];simp only[decide_eq_true_eq]
theorem jqa {a b:Int}:mmV true (some (.s (.int .i64 a))) (some (.s (.int .i64 b)))=some (vi (if a<=b then b else a)):=by
 show some (AV.s (.int .i64 (oif (ile a b) b a)))=_
 rw[jah,jb4];simp only[decide_eq_true_eq]
end
theorem qbm:type_of% @Int.cast_ofNat_Int:=@Int.cast_ofNat_Int
theorem qbn:type_of% @Int.natCast_zero:=@Int.natCast_zero
theorem qbo:type_of% @Int.natCast_one:=@Int.natCast_one
theorem qbp:type_of% @decide_eq_true_eq:=@decide_eq_true_eq
theorem qbq:type_of% @decide_eq_false_iff_not:=@decide_eq_false_iff_not
theorem qbr:type_of% @Bool.false_eq_true:=@Bool.false_eq_true
theorem qbs:type_of% @and_true:=@and_true
theorem qbt:type_of% @true_and:=@true_and
theorem qbu:type_of% @List.cons_append:=@List.cons_append
theorem qbv:type_of% @List.nil_append:=@List.nil_append
theorem j91:type_of% @decide_true:=@decide_true
theorem j92:type_of% @decide_false:=@decide_false
theorem j93:type_of% @Bool.not_true:=@Bool.not_true
theorem j94:type_of% @Bool.not_false:=@Bool.not_false
theorem j95:type_of% @Nat.add_zero:=@Nat.add_zero
theorem j96:type_of% @Nat.zero_add:=@Nat.zero_add
theorem j97:type_of% @Option.some.injEq:=@Option.some.injEq
theorem j98:type_of% @Bool.true_eq_false:=@Bool.true_eq_false
theorem j99:type_of% @not_true_eq_false:=@not_true_eq_false
theorem qaa:type_of% @not_false_eq_true:=@not_false_eq_true
theorem qab:type_of% @Hp.next_push:=@Hp.next_push
theorem qac:type_of% @Hp.next_put:=@Hp.next_put
theorem qad:type_of% @Nat.add_assoc:=@Nat.add_assoc
attribute [go_sem] jej jp8 jix jym j41 jyn j42 jsu jta jpe jos jyo jyp jtb jo9 jtc jpc jpb jpf jpd jl4 jpa jyr jtd jpg jph jte jpj jpi jpl jpk jl5 jfj jl6 jfk jl7 jdt jl8 jtf jhm jfe jif jld jgk jle jor jff jig jlf jy6 jy8 jl9 jit jtg jpm jza jti jpo jpq jtk jtm jmb jto jy7 jy9 jma jiu jth jpn jzb jtj jpp jpr jtl jtn jmc jtp j9t j9u j9v jsw jou jll jlm jln jlp jlq jlr jgm jgn j9w j9x jgo j47 jls jov jii jow jij j48 jsx jyt jyu jyv jox jik jil jim jin jlt joy jlu jlv jio jfg jfh jlw jsy jsz j5z jp9 jqa jyw jts jiv jlx joz jly jzc jmd js0 js1 jzd jps jtq jo0 jzh jpv jpu jtr jme jpt jo1 jlz jo2 jl0 jip jgp jl1 jo3 jo4 jze jmf jo5 jjv jiq jl2 js4 js5 js6 jgu jda jgv jyy jyz jy0 jy1 jy2 jy3 jzf jmg jzg jmh jzl j5n j5o jzm j5p jtu jtv jp1 jtw jml jgs jp2 jir jc9 jis jzn jp3 j5g jds js7 jtt jmi jpw j5k j5l jpx jpy jiw jmk jzi jmj jpz jzk jp0 js9 jy5 js8 jo8 jd8 jgq jzy j5v j5t j5u jp6 jp7 jgt jhl jl3 jmm jmn jp4 jp5 j5q jzo jzp j5r jzq j5s jzr jzs jzt jzu jzv jro jzw jzx jtx jgr jch qbm qbn qbo qbp qbq qbr qbs qbt qbu qbv j91 j92 j93 j94 j95 j96 j97 j98 j99 qaa qab qac qad
end
end Go.Proofs.Ytbogkjjoigfbjaa.Ev
