/- Open runs: what operations answer at values that are known in part. No program in sight. -/
import Derived.Test.YtehhjbfmjdlcjaaOp
namespace Go.Proofs.Ytehhjbfmjdlcjaa.Ev
noncomputable section
open Go Go.RowKit
set_option linter.all false
variable {t agg ex':Bool} {rows:List (List SV)} {vs:List AV} {js:List Nat} {z xs row:List SV} {g i j o b' lo o' mc' sz' bytes:Nat} {u:SV}
abbrev vi (n:Int):AV:=.s (.int .i64 n)
abbrev vb (b:Bool):AV:=.s (.bool b)
abbrev si (n:Int):SV:=.int .i64 n
section
variable {st fr:List AV} {h:Hp} {α β:Type}
theorem qwe:ev st fr (.l i)=jeh st i:=rfl
theorem qwf:ev st fr (.g i)=jeh fr i:=rfl
theorem qwg {v:AV}:ev st fr (.c v)=some v:=rfl
theorem jzn:evs st fr []=some []:=rfl
theorem jta {o:Od} {l:List Od}:evs st fr (o::l)=ob (ev st fr o) (fun v=>ob (evs st fr l) (fun r=>some (v::r))):=rfl
theorem joz {a:α} {l:List α}:jeh (a::l) 0=some a:=rfl
theorem jo0 {a:α} {l:List α} {n:Nat}:jeh (a::l) (n+1)=jeh l n:=rfl
theorem jo1 {a x:α} {l:List α}:jqu (a::l) 0 x=x::l:=rfl
theorem jo2 {a x:α} {l:List α} {n:Nat}:jqu (a::l) (n+1) x=a::jqu l n x:=rfl
theorem jo3 {v:AV}:jcx fr none v=fr:=rfl
theorem jo4 {d:Nat} {v:AV}:jcx fr (some d) v=jqu fr d v:=rfl
theorem jiw:jdb 0=[]:=rfl
theorem jix {n:Nat}:jdb (n+1)=.undef::jdb n:=rfl
theorem qwh {a:α} {f:α->Option β}:ob (some a) f=f a:=rfl
theorem qwi {f:α->Option β}:ob none f=none:=rfl
theorem jbc {b:Bool} {x y:α}:oif b x y=if b=true then x else y:=by cases b<;>rfl
theorem qj3 {e:Option β} {x:SV} {f:SV->Option β}:svc e (.s x) f=f x:=rfl
theorem jo5 {e:Option β} {f:SV->Option β}:svc e .undef f=e:=rfl
theorem jtb {k:IntKind} {n:Int} {f:IntKind->Int->Option β}:qiv (.int k n) f=f k n:=rfl
theorem jlt {b:Bool} {f:Bool->Option β}:jqv (.bool b) f=f b:=rfl
theorem jtc {k:IntKind} {n:Int} {f:IntKind->Int->Option β}:jm4 (.s (.int k n)) f=f k n:=rfl
theorem jlu {b:Bool} {f:Bool->Option β}:jio (.s (.bool b)) f=f b:=rfl
theorem qj4 {x:SV} {f:List SV->Option β}:cel (.s x) f=f [x]:=rfl
theorem jzo {l:List SV} {f:List SV->Option β}:cel (.agg l) f=f l:=rfl
theorem j7u {a:SV}:jf5 false [a]=some (.s a):=rfl
theorem j7v {l:List SV}:jf5 true l=some (.agg l):=rfl
theorem j7w {x:SV} {f:List SV->Option β}:qdf false (.s x) f=f [x]:=rfl
theorem jtd {l:List SV} {f:List SV->Option β}:qdf true (.agg l) f=f l:=rfl
theorem jlv {l:List α}:jb6 0 l=some []:=rfl
theorem jlw {a:α} {l:List α} {n:Nat}:jb6 (n+1) (a::l)=ob (jb6 n l) (fun x=>some (a::x)):=rfl
theorem jh3 {l:List α}:jcl 0 l=l:=rfl
theorem jlx {a:α} {l:List α} {n:Nat}:jcl (n+1) (a::l)=jcl n l:=rfl
theorem jo6 {n:Nat}:jcl n ([]:List α)=[]:=by cases n<;>rfl
theorem jte:jd3 ([]:List α)=0:=rfl
theorem jo7 {a:α} {l:List α}:jd3 (a::l)=jd3 l+1:=rfl
theorem jo8 {l:List α}:jnt [] l=some l:=rfl
theorem jly {x a:α} {xs l:List α}:jnt (x::xs) (a::l)=ob (jnt xs l) (fun y=>some (x::y)):=rfl
theorem jhj {xs l:List α}:jbk 0 xs l=jnt xs l:=rfl
theorem jdp {a:α} {xs l:List α} {n:Nat}:jbk (n+1) xs (a::l)=ob (jbk n xs l) (fun y=>some (a::y)):=rfl
theorem jo9 {a:Nat}:Nat.beq a a=true:=f16 a
theorem jzp {a b:Nat}:(Nat.beq a b=true)=(a=b):=jg4 a b
theorem jzq {a b:Nat}:(Nat.ble a b=true)=(a<=b):=jqx a b
theorem j7x {x:Od}:pop st fr (.mv x)=ev st fr x:=rfl
theorem jpa {ps:List (Nat×Nat×Od)}:pop st fr (.build z ps)=ob (fill st fr ps z) (fun cs=>some (.agg cs)):=rfl
theorem jtf {cs:List SV}:fill st fr [] cs=some cs:=rfl
theorem jpb {off n:Nat} {o:Od} {ps:List (Nat×Nat×Od)} {cs:List SV}:fill st fr ((off,n,o)::ps) cs=ob (ev st fr o) (fun v=>cel v (fun xs=>oif (Nat.beq (jd3 xs) n) (ob (jbk off xs cs) (fill st fr ps)) none)):=rfl
theorem jzr {x:Od}:pop st fr (.not x)=ob (ev st fr x) (fun v=>jio v (fun b=>some (.s (.bool (!b))))):=by
 show ob (ev st fr x) (fun v=>jio v (fun b=>some (AV.s (.bool (ji9 b)))))=_
 congr 1;funext v;congr 1;funext b;cases b<;>rfl
theorem jzs {x:Od}:pop st fr (.neg x)=ob (ev st fr x) (fun v=>jm4 v (fun k n=>j4l k (-n))):=rfl
theorem jtg {off n:Nat} {x:Od}:pop st fr (.fval off n agg x)=none:=rfl
theorem jth {k:IntKind} {x:Od}:pop st fr (.conv k x)=ob (ev st fr x) (fun v=>jm4 v (fun _ n=>qde k n)):=rfl
theorem jj1 {f:FuncId} {cs:List Od}:pop st fr (.mkfun f cs)=ob (evs st fr cs) (fun vs=>ob (qf7 vs) (fun ps=>some (.s (.func f ps)))):=rfl
theorem jti:qf7 []=some []:=rfl
theorem jpc {b:Nat} {l:List AV}:qf7 (.s (.ptr b o)::l)=ob (qf7 l) (fun r=>some ((b,o)::r)):=rfl
theorem jlz:jf6 []=[]:=rfl
theorem jiy {b:Nat} {l:List (Nat×Nat)}:jf6 ((b,o)::l)=.s (.ptr b o)::jf6 l:=rfl
theorem jpd {b:Nat} {f:Nat->Nat->Option β} {g:List SV->Option β}:jey (.s (.ptr b o)) f g=f b o:=rfl
theorem jtj {cs:List SV} {f:Nat->Nat->Option β} {g:List SV->Option β}:jey (.s (.cp cs)) f g=g cs:=rfl
theorem jtk {b:Nat} {f:Nat->Nat->Option β}:jv5 (.s (.ptr b o)) f=f b o:=rfl
def jyw (v:AV):Option AV:=jcp v (some (.s (.int .i64 0))) (fun _ _ n _ _ _=>some (.s (.int .i64 (Int.ofNat n)))) (fun rows=>some (.s (.int .i64 (Int.ofNat (jd3 rows))))) (some (.s (.int .i64 0)))
theorem jtl:jyw (.s .nilSlice)=some (vi 0):=rfl
theorem jj2:jyw (.s (.lst rows))=some (vi rows.length):=by
 show some (AV.s (.int .i64 (Int.ofNat (jd3 rows))))=_
 rw[jbw];rfl
theorem jl0 {b n mc sz:Nat} {e:Bool}:jyw (.s (.slice b o n mc e sz))=some (vi n):=rfl
def j7y (n:Int):Option AV:=if -9223372036854775808<=n/\n<=9223372036854775807 then some (vi n) else none
theorem qed {n:Int} (h1:-9223372036854775808<=n) (h2:n<=9223372036854775807):inR .i64 n=true:=by
 cases n with
 | ofNat m=>exact(jqx m 9223372036854775807).symm▸(by have:(m:Int)<=9223372036854775807:=h2
                                                      omega)
 | negSucc m=>exact(jqx m 9223372036854775807).symm▸(by have:-9223372036854775808<=Int.negSucc m:=h1
                                                        omega)
theorem jpe {n:Int}:j4l .i64 n=j7y n:=by
 unfold j7y
 show oif (inR .i64 n) (some (AV.s (.int .i64 n))) none=_
 split
 .rename_i h;rw[qed h.1 h.2];rfl
 .rename_i h
  cases e:inR .i64 n with
  | false=>rfl
  | true =>
   rcases jet e with⟨_,a,b⟩ | ⟨e,_⟩ | ⟨e,_⟩
   .exact absurd ⟨a,b⟩ h
   .cases e
   .cases e
theorem jh4 {n:Int} (h1:-9223372036854775808<=n) (h2:n<=9223372036854775807):j7y n=some (vi n):=if_pos ⟨h1,h2⟩
def w64 (n:Int):Int:=IntKind.wrap .i64 n
theorem jab {n:Int} (h1:-9223372036854775808<=n) (h2:n<=9223372036854775807):w64 n=n:=jji (qed h1 h2)
theorem jzt {n:Int}:qdc .i64 n=some (vi (w64 n)):=by
 show oif (inR .i64 n) (some (AV.s (.int .i64 n))) (some (AV.s (.int .i64 (IntKind.wrap .i64 n))))=_
 cases e:inR .i64 n with
 | true=>rw[show w64 n=n from jji e];rfl
 | false=>rfl
variable {a b:Int}
theorem jzu:jcw .add (.int .i64 a) (.int .i64 b)=some (vi (w64 (a+b))):=by
 rw[←jzt];show qdc .i64 (qqk a b)=_;rw[j6j]
theorem jzv:jcw .sub (.int .i64 a) (.int .i64 b)=some (vi (w64 (a - b))):=by rw[←jzt];rfl
theorem jzw:jcw .mul (.int .i64 a) (.int .i64 b)=some (vi (w64 (a*b))):=by rw[←jzt];rfl
theorem qj5:jcw .quo (.int .i64 a) (.int .i64 b)=if b=0 then none else j7y (a.tdiv b):=by
 rw[←jpe]
 show oif (ieq b 0) none (j4l .i64 (a.tdiv b))=_
 rw[jaz,jcq];simp only[decide_eq_true_eq]
theorem jzx:jcw .rem (.int .i64 a) (.int .i64 b)=if b=0 then none else j7y (a.tmod b):=by
 rw[←jpe]
 show oif (ieq b 0) none (j4l .i64 (a.tmod b))=_
 rw[jaz,jcq];simp only[decide_eq_true_eq]
theorem j7z:jcw .eq (.int .i64 a) (.int .i64 b)=some (vb (decide (a=b))):=by
 show some (AV.s (.bool (ieq a b)))=_;rw[jcq]
theorem j70:jcw .ne (.int .i64 a) (.int .i64 b)=some (vb (decide (a≠b))):=by
 show some (AV.s (.bool (ji9 (ieq a b))))=_;rw[jcq,jgp];congr 3;by_cases h:a=b<;>simp[h]
theorem j71:jcw .lt (.int .i64 a) (.int .i64 b)=some (vb (decide (a<b))):=by
 show some (AV.s (.bool (ji9 (ile b a))))=_;rw[jej,jgp];congr 3;by_cases h:a<b<;>simp[h]
 omega
theorem j72:jcw .le (.int .i64 a) (.int .i64 b)=some (vb (decide (a<=b))):=by
 show some (AV.s (.bool (ile a b)))=_;rw[jej]
theorem j73:jcw .gt (.int .i64 a) (.int .i64 b)=some (vb (decide (b<a))):=by
 show some (AV.s (.bool (ji9 (ile a b))))=_;rw[jej,jgp];congr 3;by_cases h:b<a<;>simp[h]
 omega
theorem j74:jcw .ge (.int .i64 a) (.int .i64 b)=some (vb (decide (b<=a))):=by
 show some (AV.s (.bool (ile b a)))=_;rw[jej]
theorem qj6 {n:Nat} {k:IntKind} (hn:n<=63):jcw .shr (.int .i64 a) (.int k (n:Int))=some (vi (a / 2 ^ n)):=by
 have hs:jyy .i64 n=true:=by
  have hI:jnu .i64=true:=rfl
  unfold jyy
  simp[jaz,jqx,hn,hI]
 have e:jcw .shr (.int .i64 a) (.int k (n:Int))=jwa .shr .i64 a (n:Int):=by
  show oif (Nat.beq (ikn .i64) (ikn k)) (jwa .shr .i64 a n) (oif true (jwa .shr .i64 a n) none)=_
  cases Nat.beq (ikn .i64) (ikn k)<;>rfl
 rw[e]
 cases a with
 | ofNat m =>
  show oif (jyy .i64 n) (some (AV.s (.int .i64 (Int.ofNat (Nat.div m (Nat.pow 2 n)))))) none=_
  rw[hs]
  have:Int.ofNat (Nat.div m (Nat.pow 2 n))=Int.ofNat m / 2 ^ n:=by
   show((m / 2 ^ n:Nat):Int)=(m:Int) / 2 ^ n
   rw[Int.natCast_ediv,f3q];rfl
  rw[this];rfl
 | negSucc m =>
  show oif (jyy .i64 n) (some (AV.s (.int .i64 (Int.negSucc (Nat.div m (Nat.pow 2 n)))))) none=_
  rw[hs]
  have:Int.negSucc (Nat.div m (Nat.pow 2 n))=Int.negSucc m / 2 ^ n:=by
   obtain⟨q,hq⟩:∃ q,2 ^ n=q+1:=⟨2 ^ n - 1,by have:=Nat.two_pow_pos n;omega⟩
   have h2:(2:Int) ^ n=((q+1:Nat):Int):=by rw[←hq,f3q];rfl
   have h3:Nat.pow 2 n=q+1:=hq
   rw[h2,h3];rfl
  rw[this];rfl
theorem jgr (h1:-9223372036854775808<=a) (h2:a<=9223372036854775807):jcw .and (.int .i64 a) (.int .i64 1)=some (vi (a % 2)):=by
 have hr:=qed h1 h2
 cases a with
 | ofNat m =>
  show oif (inR .i64 (.ofNat m)) (some (AV.s (.int .i64 (.ofNat (Nat.land m 1))))) none=_
  rw[hr]
  have:Int.ofNat (Nat.land m 1)=Int.ofNat m % 2:=by
   rw[show Nat.land m 1=m % 2 from f19 m];rfl
  rw[this];rfl
 | negSucc m =>
  show oif (inR .i64 (.negSucc m)) (some (AV.s (.int .i64 (.ofNat (Nat.xor 1 (Nat.land 1 m)))))) none=_
  rw[hr]
  have:Int.ofNat (Nat.xor 1 (Nat.land 1 m))=Int.negSucc m % 2:=by
   have e:Nat.land 1 m=m % 2:=(Nat.and_comm 1 m).trans (f19 m)
   rw[e]
   rcases Nat.mod_two_eq_zero_or_one m with h | h
   .rw [h];show(1:Int)=_;omega
   .rw [h];show(0:Int)=_;omega
  rw[this];rfl
theorem qj7 (h1:-9223372036854775808<=a) (h2:a<=9223372036854775807):jcw .or (.int .i64 a) (.int .i64 1)=some (vi (a+(1 - a % 2))):=by
 have hr:=qed h1 h2
 cases a with
 | ofNat m =>
  show oif (inR .i64 (.ofNat m)) (some (AV.s (.int .i64 (.ofNat (Nat.lor m 1))))) none=_
  rw[hr]
  have:Int.ofNat (Nat.lor m 1)=Int.ofNat m+(1 - Int.ofNat m % 2):=by
   have e:m ||| 1=m+(1 - m % 2):=by
    have h1:(m ||| 1) / 2=m / 2:=by rw[Nat.or_div_two];simp
    have h2:(m ||| 1) % 2=1:=by rw[Nat.or_mod_two_eq_one];simp
    omega
   show((m ||| 1:Nat):Int)=(m:Int)+(1 - (m:Int) % 2)
   rw[e];omega
  rw[this];rfl
 | negSucc m =>
  show oif (inR .i64 (.negSucc m)) (some (AV.s (.int .i64 (.negSucc (Nat.xor m (Nat.land m 1)))))) none=_
  rw[hr]
  have:Int.negSucc (Nat.xor m (Nat.land m 1))=Int.negSucc m+(1 - Int.negSucc m % 2):=by
   have e:m ^^^ (m &&& 1)=m - m % 2:=by
    have h1:(m ^^^ (m &&& 1)) / 2=m / 2:=by rw[Nat.xor_div_two,Nat.and_div_two];simp
    have h2:¬ (m ^^^ (m &&& 1)) % 2=1:=by
     have e:m &&& 1=m % 2:=f19 m
     rw[e,Nat.xor_mod_two_eq_one];omega
    omega
   show Int.negSucc (m ^^^ (m &&& 1))=_
   rw[e];omega
  rw[this];rfl
end
class Ok (h:Hp):Prop where
 hid:h.hid=[]
 lo:h.lo=0
 pos:1<=h.next
theorem jh5 {a b:Nat} (h:a<=b):Nat.ble a b=true:=by rw[jqx];exact h
theorem jda:Ok h0:=⟨rfl,rfl,f0f 1⟩
section
variable {h:Hp} {F:Fns} {st fr:List AV} {Q:Ex->St->Prop} {β:Type}
theorem jay {x:AB} (k:Ok h):Ok (h.push x):=⟨k.hid,k.lo,f2s k.pos⟩
theorem jas {b:Nat} {x:Option AB} (k:Ok h):Ok (h.put b x):=⟨by rw[Hp.hid_put];exact k.hid,by rw[Hp.lo_put];exact k.lo,by rw[Hp.next_put];exact k.pos⟩
instance iPush {x:AB} [k:Ok h]:Ok (h.push x):=jay k
instance iPut {b:Nat} {x:Option AB} [k:Ok h]:Ok (h.put b x):=jas k
theorem jau {x:AB} {n:Nat} (k:Ok h):(h.push x).get n=if n=h.next then some x else h.get n:=by
 rw[Hp.get_eq,Hp.get_eq,Hp.hid_push,k.hid]
 have e:jat [] n=false:=rfl
 rw[e]
 show(h.tr.put (Nat.succ h.next) h.next (some x)).get n=_
 split
 .rename_i hn;subst hn;exact jbu _ _ _ _ k.pos (jmf _)
 .rename_i hn;exact jbz _ _ _ _ n k.pos (jmf _) hn
theorem jaj {b n:Nat} {x:Option AB} (k:Ok h) (hb:1<=b):(h.put b x).get n=if n=b then x else h.get n:=by
 rw[Hp.get_eq,Hp.get_eq,Hp.hid_put,k.hid,Hp.tr_put]
 have e:jat [] n=false:=rfl
 rw[e]
 show(h.tr.put (Nat.succ b) b x).get n=_
 split
 .rename_i hn;subst hn;exact jbu _ _ _ _ hb (jmf _)
 .rename_i hn;exact jbz _ _ _ _ n hb (jmf _) hn
def Hp.hide (h:Hp) (lo:Nat) (hid:List (Nat×Nat)):Hp:=.mk h.next h.tr lo hid
theorem jl1 {n:Nat}:jat [] n=false:=by cases n<;>rfl
theorem jiz {a b n:Nat} {l:List (Nat×Nat)}:jat ((a,b)::l) n=if a<=n/\n<b then true else jat l n:=by
 show oif (Nat.ble a n) (oif (Nat.ble (n+1) b) true (jat l n)) (jat l n)=_
 simp only[jaz,jqx]
 by_cases h1:a<=n
 .by_cases h2:n+1<=b
  .rw [if_pos h1,if_pos h2,if_pos ⟨h1,h2⟩]
  .rw [if_pos h1,if_neg h2,if_neg (fun h=>h2 h.2)]
 .rw [if_neg h1,if_neg (fun h=>h1 h.1)]
theorem qee {n:Nat} {hid:List (Nat×Nat)} (k:Ok h):(h.hide lo hid).get n=if jat hid n=true then none else h.get n:=by
 rw[Hp.get_eq,Hp.get_eq,k.hid];rfl
theorem jw7 {cs:List SV} {ty:TypeId} {f:Nat->Hp->Option β} (k:Ok h):nw h cs ty f=f h.next (h.push (.arr cs ty)):=by
 cases h with
 | mk n t lo hid =>
  obtain rfl:hid=[]:=k.hid
  rfl
def rdB (x:Option AB) (off n:Nat):Option (List SV):=ob x (fun x=>AB.casesOn (motive:=fun _=>Option (List SV)) x (fun cs _=>jb6 n (jcl off cs)) (fun _ _=>none))
theorem je5 {cs:List SV} {ty:TypeId} {off n:Nat}:rdB (some (.arr cs ty)) off n=jb6 n (jcl off cs):=rfl
def wrB (h:Hp) (b:Nat) (x:Option AB) (off:Nat) (xs:List SV):Option Hp:=ob x (fun x=>AB.casesOn (motive:=fun _=>Option Hp) x (fun cs ty=>ob (jbk off xs cs) (fun cs'=>some (h.put b (some (.arr cs' ty))))) (fun _ _=>none))
theorem qrx {b off:Nat} (k:Ok h):wr h b off xs=wrB h b (h.get b) off xs:=by
 show oif (Nat.ble h.lo b) _ none=_
 rw[k.lo];rfl
theorem jpf {b:Nat} {cs:List SV} {ty:TypeId} {off:Nat}:wrB h b (some (.arr cs ty)) off xs=ob (jbk off xs cs) (fun cs'=>some (h.put b (some (.arr cs' ty)))):=rfl
def jmy (h:Hp) (n:Nat) (agg:Bool) (v:AV):Option AV:=jey v (fun b off=>ob (rd h b off n) (fun cs=>jf5 agg cs)) (fun cs=>ob (jb6 n cs) (fun cs=>jf5 agg cs))
theorem qj8 {α γ:Type} {x:Option α} {f:α->Option β} {g:β->Option γ}:ob (ob x f) g=ob x (fun a=>ob (f a) g):=by cases x<;>rfl
theorem j2g {n:Nat} {x:Od}:jfh st fr h (.load n agg x)=ob (ev st fr x) (fun v=>ob (jmy h n agg v) (fun v=>ok v h)):=by
 show ob (ev st fr x) (fun v=>jey v (fun b off=>ob (rd h b off n) (fun cs=>ob (jf5 agg cs) (fun v=>ok v h))) (fun cs=>ob (jb6 n cs) (fun cs=>ob (jf5 agg cs) (fun v=>ok v h))))=_
 congr 1
 funext v
 cases v with
 | s v=>cases v<;>first | rfl | (show ob _ _=ob (ob _ _) _;rw[qj8])
 | _=>rfl
def j75 (h:Hp) (n:Nat) (p v:AV):R:=jv5 p (fun b off=>cel v (fun cs=>oif (Nat.beq (jd3 cs) n) (ob (wr h b off cs) (fun h=>ok .undef h)) none))
theorem qef {b:Nat} {v:SV} (k:Ok h):j75 h 1 (.s (.ptr b o)) (.s v)=ob (wrB h b (h.get b) o [v]) (fun h=>ok .undef h):=by
 show ob (wr h b o [v]) _=_
 rw[qrx k]
theorem j5i {n b:Nat} {cs:List SV} (k:Ok h) (hn:cs.length=n):j75 h n (.s (.ptr b o)) (.agg cs)=ob (wrB h b (h.get b) o cs) (fun h=>ok .undef h):=by
 show oif (Nat.beq (jd3 cs) n) (ob (wr h b o cs) _) none=_
 rw[qrx k,jbw,hn,f16];rfl
theorem qj9 {e:TypeId} (k:Ok h):jfh st fr h (.new e z)=some (.s (.ptr h.next 0),h.push (.arr z e)):=by
 show nw h z e (fun n h=>ok (.s (.ptr n 0)) h)=_
 rw[jw7 k];rfl
theorem qka {e:TypeId} {x:Od} (k:Ok h):jfh st fr h (.box e x)=ob (ev st fr x) (fun v=>cel v (fun cs=>some (.s (.ptr h.next 0),h.push (.arr cs e)))):=by
 show ob (ev st fr x) (fun v=>cel v (fun cs=>nw h cs e (fun n h=>ok (.s (.ptr n 0)) h)))=_
 congr 1;funext v;congr 1;funext cs;rw[jw7 k];rfl
theorem j5j {e:TypeId} {size:Nat} {len:Nat} {ps:List (Nat×Nat×Od)} (k:Ok h):jfh st fr h (.bslice e size z len ps)=ob (fill st fr ps z) (fun cs=>some (.s (.slice h.next 0 len len true size),h.push (.arr cs e))):=by
 show ob (fill st fr ps z) (fun cs=>nw h cs e (fun n h=>ok (.s (.slice n 0 len len true size)) h))=_
 congr 1;funext cs;rw[jw7 k];rfl
def qry (h:Hp) (e:TypeId) (size bytes:Nat) (z:List SV) (l c:AV):R:=qf9 l (fun m=>qf9 c (fun k=>oif (Nat.ble m k) (oif (Nat.ble (Nat.mul bytes k) 1000000000) (oif (Nat.ble k 1000000000) (nw h (rep z k) e (fun b h=>ok (.s (.slice b 0 m k true size)) h)) none) none) none))
theorem jpg {e:TypeId} {size:Nat} {m:Nat} (k:Ok h) (h1:bytes*m<=1000000000) (h2:m<=1000000000):qry h e size bytes z (vi m) (vi m)=some (.s (.slice h.next 0 m m true size),h.push (.arr (rep z m) e)):=by
 show oif (Nat.ble m m) (oif (Nat.ble (Nat.mul bytes m) 1000000000) (oif (Nat.ble m 1000000000) (nw h (rep z m) e _) none) none) none=_
 rw[jw7 k,jh5 (f0f m),jh5 h2,show Nat.ble (Nat.mul bytes m) 1000000000=true from jh5 h1];rfl
def jyx (size:Nat) (v w:AV):Option AV:=jcp v none (fun b off len _ _ _=>jk4 w len (fun m=>some (.s (.ptr b (Nat.add off (Nat.mul m size))))))
 (fun rows=>jk4 w (jd3 rows) (fun m=>ob (jeh rows m) (fun row=>oif (Nat.beq (jd3 row) size) (some (.s (.cp row))) none))) none
theorem jhk {m n:Nat} {f:Nat->Option β} (hm:m<n):jk4 (vi (m:Int)) n f=f m:=by
 show oif (Nat.ble (Nat.succ m) n) (f m) none=_
 rw[jh5 (show Nat.succ m<=n from hm)];rfl
theorem jbf {size b off len mc sz m:Nat} {ex:Bool} (hm:m<len):jyx size (.s (.slice b off len mc ex sz)) (vi (m:Int))=some (.s (.ptr b (off+m*size))):=jhk (f:=fun m=>some (AV.s (.ptr b (Nat.add off (Nat.mul m size))))) hm
theorem jci {size b off len mc sz:Nat} {ex:Bool} (hm:0<len):jyx size (.s (.slice b off len mc ex sz)) (vi 0)=some (.s (.ptr b off)):=by
 have:=jhk (f:=fun m=>some (AV.s (.ptr b (Nat.add off (Nat.mul m size))))) hm
 refine this.trans ?_
 show some (AV.s (.ptr b (off+0*size)))=_
 rw[f2y,f1n]
theorem j2h {size m:Nat} (hr:rows[m]?=some row) (hl:row.length=size):jyx size (.s (.lst rows)) (vi (m:Int))=some (.s (.cp row)):=by
 have hm:m<rows.length:=by
  rcases f0i m rows.length with h | h
  .exact h
  .rw [f0j h] at hr;cases hr
 have:=jhk (f:=fun m=>ob (jeh rows m) (fun row=>oif (Nat.beq (jd3 row) size) (some (AV.s (.cp row))) none)) (show m<jd3 rows by rw[jbw];exact hm)
 refine this.trans ?_
 rw[jcd,hr]
 show oif (Nat.beq (jd3 row) size) _ none=_
 rw[jbw,hl,f16];rfl
def qgj (n size:Nat) (v w:AV):Option AV:=jey v (fun b off=>jk4 w n (fun m=>some (.s (.ptr b (Nat.add off (Nat.mul m size)))))) (fun cs=>jk4 w n (fun m=>some (.s (.cp (jcl (Nat.mul m size) cs)))))
theorem jct {n size b off m:Nat} (hm:m<n):qgj n size (.s (.ptr b off)) (vi (m:Int))=some (.s (.ptr b (off+m*size))):=jhk (f:=fun m=>some (AV.s (.ptr b (Nat.add off (Nat.mul m size))))) hm
theorem je6 {n size m:Nat} {cs:List SV} (hm:m<n):qgj n size (.s (.cp cs)) (vi (m:Int))=some (.s (.cp (jcl (m*size) cs))):=jhk (f:=fun m=>some (AV.s (.cp (jcl (Nat.mul m size) cs)))) hm
def qzf (h:Hp) (e:TypeId) (size bytes b n m:Nat) (x:Option AB) (new:List SV):R :=
 jid bytes (Nat.add n m) (ob x (fun x=>AB.casesOn (motive:=fun _=>R) x (fun cs ty =>
  ob (jb6 (Nat.mul n size) (jcl 0 cs)) (fun old=>(oif (Nat.ble h.lo b) (oif (Nat.beq ty e) (nw (h.put b none) (jgn old new) e (fun k h=>ok (.s (.slice k 0 (Nat.add n m) (Nat.add n m) false size)) h)) none) none))) (fun _ _=>none)))
def jq2 (h:Hp) (e:TypeId) (size bytes:Nat) (v w:AV):R:=jcp w (qc6 v (ok v h)) (fun b' off' m _ _ _=>ob (rd h b' off' (Nat.mul m size)) (fun new=>j4n h e size bytes m v new))
 (fun rows=>ob (jsl size rows) (fun new=>j4n h e size bytes (jd3 rows) v new)) (qc6 v (ok v h))
theorem jq3 {e:TypeId} {size m:Nat}:jq2 h e size bytes (.s .nilSlice) (.s (.slice b' o' m mc' ex' sz'))=ob (rdB (h.get b') o' (m*size)) (fun new=>Nat.casesOn (motive:=fun _=>R) m (some (.s .nilSlice,h)) (fun _=>jid bytes m (nw h new e (fun k h=>ok (.s (.slice k 0 m m false size)) h)))):=rfl
theorem jnc {n:Nat} {x:R} (h1:n*bytes<=1000000000) (h2:n<=1000000000):jid bytes n x=x:=by
 show oif (Nat.ble (Nat.mul n bytes) 1000000000) (oif (Nat.ble n 1000000000) x none) none=_
 rw[show Nat.ble (Nat.mul n bytes) 1000000000=true from jh5 h1,jh5 h2];rfl
theorem jg0 {e:TypeId} {size b n m:Nat} (hm:1<=m):jq2 h e size bytes (.s (.slice b 0 n n false size)) (.s (.slice b' o' m mc' ex' sz'))=ob (rdB (h.get b') o' (m*size)) (fun new=>qzf h e size bytes b n m (h.get b) new):=by
 show ob (rdB (h.get b') o' (m*size)) (fun new=>oif (Nat.beq size size) (oif (Nat.ble (Nat.add n m) n) _ (jid bytes (Nat.add n m) (jf1 h e size b 0 n m false new))) none)=_
 congr 1
 funext new
 have e1:Nat.ble (Nat.add n m) n=false:=by
  cases e:Nat.ble (Nat.add n m) n with
  | false=>rfl
  | true=>rw[jqx] at e;have:n+m<=n:=e;omega
 rw[f16]
 show oif (Nat.ble (Nat.add n m) n) _ _=_
 rw[e1]
 rfl
theorem j76 {e:TypeId} {size b n m:Nat} {cs new:List SV} (k:Ok h) (hc:cs.length=n*size) (h1:(n+m)*bytes<=1000000000) (h2:n+m<=1000000000) :
 qzf h e size bytes b n m (some (.arr cs e)) new=some (.s (.slice h.next 0 (n+m) (n+m) false size),(h.put b none).push (.arr (cs++new) e)):=by
 show jid bytes (n+m) (ob (jb6 (n*size) cs) (fun old=>oif (Nat.ble h.lo b) (oif (Nat.beq e e) (nw (h.put b none) (jgn old new) e _) none) none))=_
 rw[jnc h1 h2,(jbe _).2 ⟨f29 hc.symm,rfl⟩,←hc,f25]
 show oif (Nat.ble h.lo b) (oif (Nat.beq e e) (nw (h.put b none) (jgn cs new) e _) none) none=_
 rw[k.lo,f16,jw7 (jas k),jc9,Hp.next_put]
 rfl
def qz0 (v:AV):Option (Bool×List SV):=AV.casesOn (motive:=fun _=>Option (Bool×List SV)) v (fun s=>some (false,[s])) (fun l=>some (true,l)) (fun _=>none) none none
theorem jl2:jf8 fr h []=some []:=rfl
theorem je7 {r:IR} {l:List IR}:jf8 fr h (r::l)=ob (jmu fr h r) (fun v=>ob (jf8 fr h l) (fun x=>some (v::x))):=rfl
theorem jl3:jca (.mk fr h) []=some (.tup [],h):=rfl
theorem j5k {r:IR}:jca (.mk fr h) [r]=ob (jmu fr h r) (fun p=>ob (jf5 p.1 p.2) (fun v=>some (v,h))):=by
 show ob (ob (jmu fr h r) (fun v=>ob (some []) (fun x=>some (v::x)))) (fun vs=>List.casesOn (motive:=fun _=>R) vs (ok (.tup []) h) (fun p r=>List.casesOn (motive:=fun _=>R) r (ob (jf5 p.1 p.2) (fun v=>ok v h)) (fun _ _=>ok (.tup vs) h)))=_
 cases jmu fr h r<;>rfl
theorem j5l {r r':IR} {l:List IR}:jca (.mk fr h) (r::r'::l)=ob (jf8 fr h (r::r'::l)) (fun vs=>some (.tup vs,h)):=by
 show ob (jf8 fr h (r::r'::l)) (fun vs=>List.casesOn (motive:=fun _=>R) vs (ok (.tup []) h) (fun p r=>List.casesOn (motive:=fun _=>R) r (ob (jf5 p.1 p.2) (fun v=>ok v h)) (fun _ _=>ok (.tup vs) h)))=_
 rw[je7,je7]
 cases jmu fr h r with
 | none=>rfl
 | some a=>cases jmu fr h r' with
  | none=>rfl
  | some b=>cases jf8 fr h l<;>rfl
theorem qeg {v:AV}:ok v h=some (v,h):=rfl
theorem jzy {es:List Ent} {hid:List (Nat×Nat)}:sel es [] hid=some hid:=rfl
theorem jtm {es:List Ent} {hid:List (Nat×Nat)}:sel es (j::js) hid=ob (jeh es j) (fun e=>ob (sel es js hid) (fun l=>Ent.casesOn (motive:=fun _=>Option (List (Nat×Nat))) e (fun iv _=>some (iv++l)))):=by
 show ob (jeh es j) (fun e=>ob (sel es js hid) (fun l=>Ent.casesOn (motive:=fun _=>Option (List (Nat×Nat))) e (fun iv _=>some (jgn iv l))))=_
 simp only[jc9]
def fpV:AV->List Nat
 | .s (.ptr b _)=>[b]
 | _=>[]
theorem jzz {b:Nat}:fpV (.s (.ptr b o))=[b]:=rfl
theorem j77 {cs:List SV}:fpV (.s (.cp cs))=[]:=rfl
theorem jw8 {es:List Ent} {dst:Option Nat} {n:Nat} {x:Od} {l:List (IOper×Option (List Nat))}:WD F ((.mk dst (.a (.load n agg x)) none,some js)::l) st es fr h Q=obP (sel es js h.hid) (fun hid'=>obP (ev st fr x) (fun p=>obP (jmy (h.hide h.next hid') n agg p) (fun v=>WD F l (v::st) (.mk [] (some (fpV p))::es) (jcx fr dst v) h Q))):=by
 cases h with
 | mk k t lo hid =>
 rw[j7s (x:=ob (sel es js hid) (fun hid'=>ob (ev st fr x) (fun p=>ob (jmy (.mk k t k hid') n agg p) (fun v=>some (DR.mk v (.mk k t lo hid) (.mk [] (some (fpV p)))))))) (fun cl=>?_)]
 .refine propext ⟨fun⟨p,h1,h2⟩=>?_,fun⟨hid',h0,q,h1,v,h2,h3⟩=>⟨.mk v (.mk k t lo hid) (.mk [] (some (fpV q))),jaa.2 ⟨hid',h0,jaa.2 ⟨q,h1,jaa.2 ⟨v,h2,rfl⟩⟩⟩,h3⟩⟩
  obtain⟨hid',h3,h4⟩:=jaa.1 h1
  obtain⟨q,h5,h6⟩:=jaa.1 h4
  obtain⟨v,h7,h8⟩:=jaa.1 h6
  cases h8
  exact⟨hid',h3,q,h5,v,h7,h2⟩
 .show jme cl st fr es (.mk k t lo hid) (.a (.load n agg x)) js=_
  show ob (sel es js hid) (fun hid'=>Cls.casesOn (motive:=fun _=>Option DR) (jwc (ob (ev st fr x) (fun v=>jey v (fun b _=>some (Cls.load b)) (fun _=>some .quiet))) (fun c=>c))
   (jm5 cl st fr k t lo k hid hid' (.a (.load n agg x)) (fun n'=>.mk [(k,n')] (some [])))
   (fun x'=>jm5 cl st fr k t lo k hid hid' (.a (.load n agg x)) (fun _=>.mk [] (some [x'])))
   (fun b=>oif (jjg es js b) (oif (Nat.ble lo b) (ob (Hp.get (.mk k t lo hid') b) (fun _=>jm5 cl st fr k t lo lo hid hid' (.a (.load n agg x)) (fun n'=>.mk [(b,Nat.succ b),(k,n')] none))) none) none)
   (jm5 cl st fr k t lo k hid hid' (.a (.load n agg x)) (fun _=>.mk [] (some [])))
   (jm5 cl st fr k t lo k hid hid' (.a (.load n agg x)) (fun n'=>.mk [(k,n')] none)))=_
  congr 1
  funext hid'
  have key:∀ e:Nat->Ent,jm5 cl st fr k t lo k hid hid' (.a (.load n agg x)) e=ob (ev st fr x) (fun p=>ob (jmy (.mk k t k hid') n agg p) (fun v=>some (DR.mk v (.mk k t lo hid) (e k)))):=fun e=>by
   show ob (aop cl st fr (.mk k t k hid') (.load n agg x)) _=_
   rw[jiv (show AO.calls (.load n agg x)=false from rfl),j2g]
   cases ev st fr x with
   | none=>rfl
   | some p =>
    show ob (ob (jmy (.mk k t k hid') n agg p) _) _=ob (jmy (.mk k t k hid') n agg p) _
    cases jmy (.mk k t k hid') n agg p<;>rfl
  have k1:=key (fun n'=>.mk [(k,n')] none)
  have k3:=key (fun _=>.mk [] (some []))
  have k2:=fun b=>key (fun _=>.mk [] (some [b]))
  cases hx:ev st fr x with
  | none =>
   rw[hx] at k1
   exact k1
  | some p =>
   rw[hx] at k1 k3
   simp only[hx] at k2
   cases p with
   | s p =>
    cases p with
    | ptr b o=>exact k2 b
    | cp cs=>exact k3
    | _=>exact k1
   | _=>exact k1
theorem jq4 {es:List Ent} {dst:Option Nat} {e:TypeId} {size:Nat} {len:Nat} {ps:List (Nat×Nat×Od)} {l:List (IOper×Option (List Nat))}:WD F ((.mk dst (.a (.bslice e size z len ps)) none,some js)::l) st es fr h Q=obP (sel es js h.hid) (fun hid'=>obP (fill st fr ps z) (fun cs=>jat hid' h.next=false/\WD F l (.s (.slice h.next 0 len len true size)::st) (.mk [(h.next,h.next+1)] (some [])::es) (jcx fr dst (.s (.slice h.next 0 len len true size))) (h.push (.arr cs e)) Q)):=by
 cases h with
 | mk k t lo hid =>
 rw[j7s (x:=ob (sel es js hid) (fun hid'=>ob (fill st fr ps z) (fun cs=>oif (jat hid' k) none (some (DR.mk (.s (.slice k 0 len len true size)) ((Hp.mk k t lo hid).push (.arr cs e)) (.mk [(k,k+1)] (some []))))))) (fun cl=>?_)]
 .refine propext ⟨fun⟨p,h1,h2⟩=>?_,fun⟨hid',h0,cs,h1,h2,h3⟩=>⟨DR.mk (.s (.slice k 0 len len true size)) ((Hp.mk k t lo hid).push (.arr cs e)) (.mk [(k,k+1)] (some [])),jaa.2 ⟨hid',h0,jaa.2 ⟨cs,h1,?_⟩⟩,h3⟩⟩
  .obtain ⟨hid',h3,h4⟩:=jaa.1 h1
   obtain⟨cs,h5,h6⟩:=jaa.1 h4
   rw[jaz] at h6
   split at h6
   .cases h6
   .rename_i h7
    cases h6
    exact⟨hid',h3,cs,h5,Bool.eq_false_iff.2 h7,h2⟩
  .have h2':jat hid' k=false:=h2
   rw[h2'];rfl
 .show jme cl st fr es (.mk k t lo hid) (.a (.bslice e size z len ps)) js=_
  show ob (sel es js hid) (fun hid'=>ob (ob (fill st fr ps z) (fun cs=>oif (jat hid' k) none (ok (.s (.slice k 0 len len true size)) (Hp.mk (Nat.succ k) (t.put (Nat.succ k) k (some (.arr cs e))) k hid')))) (fun p=>Hp.casesOn (motive:=fun _=>Option DR) p.2 (fun n' t' _ _=>some (.mk p.1 (.mk n' t' lo hid) (.mk [(k,n')] (some []))))))=_
  congr 1
  funext hid'
  cases fill st fr ps z with
  | none=>rfl
  | some cs =>
   show ob (oif (jat hid' k) none _) _=oif (jat hid' k) none _
   cases jat hid' k<;>rfl
end
section
variable {F:Fns} {s:St} {st fr:List AV} {h h':Hp} {Q:Ex->St->Prop} {l:List IOper} {dst:Option Nat} {v w:AV} {m:List (IOper×Option (List Nat))} {es:List Ent}
def zpO (F:Fns) (x:Option AV) (dst:Option Nat) (l:List IOper) (st fr:List AV) (h:Hp) (Q:Ex->St->Prop):Prop:=obP x (fun v=>WO F l (v::st) (jcx fr dst v) h Q)
theorem jtn:zpO F (some v) dst l st fr h Q=WO F l (v::st) (jcx fr dst v) h Q:=jch
def zmO (F:Fns) (x:R) (dst:Option Nat) (l:List IOper) (st fr:List AV) (Q:Ex->St->Prop):Prop:=obP x (fun p=>WO F l (p.1::st) (jcx fr dst p.1) p.2 Q)
theorem jto:zmO F (some (v,h)) dst l st fr Q=WO F l (v::st) (jcx fr dst v) h Q:=jch
def qkb (F:Fns) (dst:Option Nat) (l:List IOper) (st fr:List AV) (Q:Ex->St->Prop) (v:AV) (h:Hp):Prop:=WO F l (v::st) (jcx fr dst v) h Q
theorem jtp:qkb F dst l st fr Q v h=WO F l (v::st) (jcx fr dst v) h Q:=rfl
def zkO (F:Fns) (x:Option (List AV)) (f:FuncId) (dst:Option Nat) (l:List IOper) (st fr:List AV) (h:Hp) (Q:Ex->St->Prop):Prop:=obP x (fun vs=>WC F f vs h (qkb F dst l st fr Q))
theorem jtq {f:FuncId}:zkO F (some vs) f dst l st fr h Q=WC F f vs h (qkb F dst l st fr Q):=jch
def zgO (F:Fns) (x:Option AV) (t:Bool) (dst:Option Nat) (op:IOp) (l:List IOper) (st fr:List AV) (h:Hp) (Q:Ex->St->Prop):Prop:=gP x t (WO F (.mk dst op none::l) st fr h Q) (WO F l (.undef::st) (jcx fr dst .undef) h Q)
theorem jtr {b:Bool} {op:IOp}:zgO F (some (.s (.bool b))) t dst op l st fr h Q=if b=t then WO F (.mk dst op none::l) st fr h Q else WO F l (.undef::st) (jcx fr dst .undef) h Q:=j7q
theorem jph {op:IOp}:zgO F (some .undef) t dst op l st fr h Q=WO F l (.undef::st) (jcx fr dst .undef) h Q:=j2f
def zcO (F:Fns) (x:Option AV) (a b:IC) (fr:List AV) (h:Hp) (Q:Ex->St->Prop):Prop:=qwd x (W F a (.mk fr h) Q) (W F b (.mk fr h) Q)
theorem jts {b:Bool} {x y:IC}:zcO F (some (.s (.bool b))) x y fr h Q=if b=true then W F x (.mk fr h) Q else W F y (.mk fr h) Q:=j7l
theorem jz0 {c:Od} {x y:IC}:W F (.cond c x y) (.mk fr h) Q=zcO F (ev [] fr c) x y fr h Q:=qrv
theorem jz1 {o:PO}:WO F (.mk dst (.p o) none::l) st fr h Q=zpO F (pop st fr o) dst l st fr h Q:=qjy
theorem jz2 {f:FuncId} {as:List Od}:WO F (.mk dst (.a (.call f as)) none::l) st fr h Q=zkO F (evs st fr as) f dst l st fr h Q:=qjz
theorem jtt {op:IOp}:WO F (.mk dst op (some (i,t))::l) st fr h Q=zgO F (jeh st i) t dst op l st fr h Q:=qd8
theorem j2i {x:Od} {as:List Od} {f:FuncId} {caps:List (Nat×Nat)} (hx:ev st fr x=some (.s (.func f caps))):WO F (.mk dst (.a (.callv x as)) none::l) st fr h Q=zkO F (ob (evs st fr as) (fun vs=>some (vs++jf6 caps))) f dst l st fr h Q:=by
 rw[qd7]
 refine propext ⟨fun⟨g,cs,h1,vs,h2,h3⟩=>?_,fun⟨vs,h1,h2⟩=>?_⟩
 .rw [hx] at h1;cases h1
  exact⟨_,jaa.2 ⟨vs,h2,rfl⟩,h3⟩
 .obtain ⟨us,h3,h4⟩:=jaa.1 h1
  cases h4
  exact⟨f,caps,hx,us,h3,h2⟩
def zpD (F:Fns) (x:Option AV) (e:Ent) (dst:Option Nat) (m:List (IOper×Option (List Nat))) (st:List AV) (es:List Ent) (fr:List AV) (h:Hp) (Q:Ex->St->Prop):Prop:=obP x (fun v=>WD F m (v::st) (e::es) (jcx fr dst v) h Q)
theorem jtu {e:Ent}:zpD F (some v) e dst m st es fr h Q=WD F m (v::st) (e::es) (jcx fr dst v) h Q:=jch
def zmD (F:Fns) (x:R) (dst:Option Nat) (m:List (IOper×Option (List Nat))) (st:List AV) (es:List Ent) (fr:List AV) (Q:Ex->St->Prop):Prop:=obP x (fun p=>WD F m (p.1::st) (.mk [] (some [])::es) (jcx fr dst p.1) p.2 Q)
theorem jtv:zmD F (some (v,h)) dst m st es fr Q=WD F m (v::st) (.mk [] (some [])::es) (jcx fr dst v) h Q:=jch
def qkc (F:Fns) (dst:Option Nat) (m:List (IOper×Option (List Nat))) (st:List AV) (es:List Ent) (fr:List AV) (Q:Ex->St->Prop) (v:AV) (h:Hp):Prop:=WD F m (v::st) (.mk [] (some [])::es) (jcx fr dst v) h Q
theorem jtw:qkc F dst m st es fr Q v h=WD F m (v::st) (.mk [] (some [])::es) (jcx fr dst v) h Q:=rfl
def zkD (F:Fns) (x:Option (List AV)) (f:FuncId) (dst:Option Nat) (m:List (IOper×Option (List Nat))) (st:List AV) (es:List Ent) (fr:List AV) (h:Hp) (Q:Ex->St->Prop):Prop:=obP x (fun vs=>WC F f vs h (qkc F dst m st es fr Q))
theorem jtx {f:FuncId}:zkD F (some vs) f dst m st es fr h Q=WC F f vs h (qkc F dst m st es fr Q):=jch
def zgD (F:Fns) (x:Option AV) (t:Bool) (dst:Option Nat) (op:IOp) (o:Option (List Nat)) (m:List (IOper×Option (List Nat))) (st:List AV) (es:List Ent) (fr:List AV) (h:Hp) (Q:Ex->St->Prop):Prop:=gP x t (WD F ((.mk dst op none,o)::m) st es fr h Q) (WD F m (.undef::st) (.mk [] (some [])::es) (jcx fr dst .undef) h Q)
theorem jty {b:Bool} {op:IOp} {o:Option (List Nat)}:zgD F (some (.s (.bool b))) t dst op o m st es fr h Q=if b=t then WD F ((.mk dst op none,o)::m) st es fr h Q else WD F m (.undef::st) (.mk [] (some [])::es) (jcx fr dst .undef) h Q:=j7q
theorem jpi {op:IOp} {o:Option (List Nat)}:zgD F (some .undef) t dst op o m st es fr h Q=WD F m (.undef::st) (.mk [] (some [])::es) (jcx fr dst .undef) h Q:=j2f
theorem jz3 {o:PO}:WD F ((.mk dst (.p o) none,none)::m) st es fr h Q=zpD F (pop st fr o) (.mk [] (some [])) dst m st es fr h Q:=qj0
theorem jz4 {f:FuncId} {as:List Od}:WD F ((.mk dst (.a (.call f as)) none,none)::m) st es fr h Q=zkD F (evs st fr as) f dst m st es fr h Q:=qj1
theorem jtz {op:IOp} {o:Option (List Nat)}:WD F ((.mk dst op (some (i,t)),o)::m) st es fr h Q=zgD F (jeh st i) t dst op o m st es fr h Q:=qd9
def qzg (F:Fns) (x:Option (List (Nat×Nat))) (o:Option AV) (dst:Option Nat) (m:List (IOper×Option (List Nat))) (st:List AV) (es:List Ent) (fr:List AV) (h:Hp) (Q:Ex->St->Prop):Prop:=obP x (fun _=>zpD F o (.mk [(h.next,h.next)] (some [])) dst m st es fr h Q)
theorem jpj {x:List (Nat×Nat)} {o:Option AV}:qzg F (some x) o dst m st es fr h Q=zpD F o (.mk [(h.next,h.next)] (some [])) dst m st es fr h Q:=jch
theorem jhl {o:PO}:WD F ((.mk dst (.p o) none,some js)::m) st es fr h Q=qzg F (sel es js h.hid) (pop st fr o) dst m st es fr h Q:=jw4
def qwj (F:Fns) (x:Option (List (Nat×Nat))) (n:Nat) (agg:Bool) (p:Option AV) (dst:Option Nat) (m:List (IOper×Option (List Nat))) (st:List AV) (es:List Ent) (fr:List AV) (h:Hp) (Q:Ex->St->Prop):Prop:=obP x (fun hid'=>obP p (fun p=>zpD F (jmy (h.hide h.next hid') n agg p) (.mk [] (some (fpV p))) dst m st es fr h Q))
theorem jpk {x:List (Nat×Nat)} {n:Nat}:qwj F (some x) n agg (some w) dst m st es fr h Q=zpD F (jmy (h.hide h.next x) n agg w) (.mk [] (some (fpV w))) dst m st es fr h Q:=by
 unfold qwj;rw[jch,jch]
theorem jhm {n:Nat} {x:Od}:WD F ((.mk dst (.a (.load n agg x)) none,some js)::m) st es fr h Q=qwj F (sel es js h.hid) n agg (ev st fr x) dst m st es fr h Q:=jw8
def qvj (F:Fns) (x:Option (List (Nat×Nat))) (cs:Option (List SV)) (e:TypeId) (size len:Nat) (dst:Option Nat) (m:List (IOper×Option (List Nat))) (st:List AV) (es:List Ent) (fr:List AV) (h:Hp) (Q:Ex->St->Prop):Prop:=obP x (fun hid'=>obP cs (fun cs=>jat hid' h.next=false/\WD F m (.s (.slice h.next 0 len len true size)::st) (.mk [(h.next,h.next+1)] (some [])::es) (jcx fr dst (.s (.slice h.next 0 len len true size))) (h.push (.arr cs e)) Q))
theorem jj3 {x:List (Nat×Nat)} {cs:List SV} {e:TypeId} {size len:Nat} (hx:jat x h.next=false):qvj F (some x) (some cs) e size len dst m st es fr h Q=WD F m (.s (.slice h.next 0 len len true size)::st) (.mk [(h.next,h.next+1)] (some [])::es) (jcx fr dst (.s (.slice h.next 0 len len true size))) (h.push (.arr cs e)) Q:=by
 unfold qvj;rw[jch,jch];exact propext ⟨fun h=>h.2,fun h=>⟨hx,h⟩⟩
theorem jz5 {cs:List SV} {e:TypeId} {size len:Nat}:qvj F (some []) (some cs) e size len dst m st es fr h Q=WD F m (.s (.slice h.next 0 len len true size)::st) (.mk [(h.next,h.next+1)] (some [])::es) (jcx fr dst (.s (.slice h.next 0 len len true size))) (h.push (.arr cs e)) Q:=jj3 rfl
theorem jf3 {e:TypeId} {size:Nat} {len:Nat} {ps:List (Nat×Nat×Od)}:WD F ((.mk dst (.a (.bslice e size z len ps)) none,some js)::m) st es fr h Q=qvj F (sel es js h.hid) (fill st fr ps z) e size len dst m st es fr h Q:=jq4
def qz1 (F:Fns) (x:Option (List (Nat×Nat))) (u:AV) (dst:Option Nat) (m:List (IOper×Option (List Nat))) (st:List AV) (es:List Ent) (fr:List AV) (h:Hp) (Q:Ex->St->Prop):Prop:=obP x (fun _=>WD F m (u::st) (.mk [(h.next,h.next)] none::es) (jcx fr dst u) h Q)
theorem jpl {x:List (Nat×Nat)} {u:AV}:qz1 F (some x) u dst m st es fr h Q=WD F m (u::st) (.mk [(h.next,h.next)] none::es) (jcx fr dst u) h Q:=jch
theorem j78 {e:TypeId}:WO F (.mk dst (.a (.new e z)) none::l) st fr h Q=zmO F (jfh st fr h (.new e z)) dst l st fr Q:=jms rfl
theorem j79 {e:TypeId}:WD F ((.mk dst (.a (.new e z)) none,none)::m) st es fr h Q=zmD F (jfh st fr h (.new e z)) dst m st es fr Q:=jmt rfl
theorem j8a {e:TypeId} {x:Od}:WO F (.mk dst (.a (.box e x)) none::l) st fr h Q=zmO F (jfh st fr h (.box e x)) dst l st fr Q:=jms rfl
theorem j8b {e:TypeId} {x:Od}:WD F ((.mk dst (.a (.box e x)) none,none)::m) st es fr h Q=zmD F (jfh st fr h (.box e x)) dst m st es fr Q:=jmt rfl
theorem jpm {e:TypeId} {size:Nat} {len:Nat} {ps:List (Nat×Nat×Od)}:WO F (.mk dst (.a (.bslice e size z len ps)) none::l) st fr h Q=zmO F (jfh st fr h (.bslice e size z len ps)) dst l st fr Q:=jms rfl
theorem jpn {e:TypeId} {size:Nat} {len:Nat} {ps:List (Nat×Nat×Od)}:WD F ((.mk dst (.a (.bslice e size z len ps)) none,none)::m) st es fr h Q=zmD F (jfh st fr h (.bslice e size z len ps)) dst m st es fr Q:=jmt rfl
theorem jl4 {e:TypeId} {size:Nat} {x y:Od}:WO F (.mk dst (.a (.mkslice e size bytes z x y)) none::l) st fr h Q=zmO F (jfh st fr h (.mkslice e size bytes z x y)) dst l st fr Q:=jms rfl
theorem jl5 {e:TypeId} {size:Nat} {x y:Od}:WD F ((.mk dst (.a (.mkslice e size bytes z x y)) none,none)::m) st es fr h Q=zmD F (jfh st fr h (.mkslice e size bytes z x y)) dst m st es fr Q:=jmt rfl
theorem jz6 {n:Nat} {x:Od}:WO F (.mk dst (.a (.load n agg x)) none::l) st fr h Q=zmO F (jfh st fr h (.load n agg x)) dst l st fr Q:=jms rfl
theorem jz7 {n:Nat} {x:Od}:WD F ((.mk dst (.a (.load n agg x)) none,none)::m) st es fr h Q=zmD F (jfh st fr h (.load n agg x)) dst m st es fr Q:=jmt rfl
theorem jt0 {n:Nat} {x y:Od}:WO F (.mk dst (.a (.store n x y)) none::l) st fr h Q=zmO F (jfh st fr h (.store n x y)) dst l st fr Q:=jms rfl
theorem jt1 {n:Nat} {x y:Od}:WD F ((.mk dst (.a (.store n x y)) none,none)::m) st es fr h Q=zmD F (jfh st fr h (.store n x y)) dst m st es fr Q:=jmt rfl
theorem j8c {e:TypeId} {size:Nat} {x y:Od}:WO F (.mk dst (.a (.app e size bytes x y)) none::l) st fr h Q=zmO F (jfh st fr h (.app e size bytes x y)) dst l st fr Q:=jms rfl
theorem j8d {e:TypeId} {size:Nat} {x y:Od}:WD F ((.mk dst (.a (.app e size bytes x y)) none,none)::m) st es fr h Q=zmD F (jfh st fr h (.app e size bytes x y)) dst m st es fr Q:=jmt rfl
theorem jz8 {size:Nat} {x y:Od}:WO F (.mk dst (.a (.copy size x y)) none::l) st fr h Q=zmO F (jfh st fr h (.copy size x y)) dst l st fr Q:=jms rfl
theorem jz9 {size:Nat} {x y:Od}:WD F ((.mk dst (.a (.copy size x y)) none,none)::m) st es fr h Q=zmD F (jfh st fr h (.copy size x y)) dst m st es fr Q:=jmt rfl
def qzh (o:BO) (x y:Option AV):Option AV:=ob x (fun a=>ob y (fun b=>svc none a (fun a=>svc none b (fun b=>jcw o a b))))
theorem j8e {o:BO} {x y:Od}:pop st fr (.bin o x y)=qzh o (ev st fr x) (ev st fr y):=rfl
theorem jpo {o:BO} {a b:SV}:qzh o (some (.s a)) (some (.s b))=jcw o a b:=rfl
def qwk (off:Nat) (x:Option AV):Option AV:=ob x (fun v=>jey v (fun b o=>some (.s (.ptr b (o+off)))) (fun cs=>some (.s (.cp (jcl off cs)))))
theorem j8f {off:Nat} {x:Od}:pop st fr (.fld off x)=qwk off (ev st fr x):=rfl
theorem jt2 {off b:Nat}:qwk off (some (.s (.ptr b o)))=some (.s (.ptr b (o+off))):=rfl
theorem j0a {off:Nat} {cs:List SV}:qwk off (some (.s (.cp cs)))=some (.s (.cp (jcl off cs))):=rfl
def qkd (x:Option AV):Option AV:=ob x (fun v=>jey v (fun b o=>some (.s (.ptr b o))) (fun cs=>some (.s (.cp cs))))
theorem j0b {x:Od}:pop st fr (.nchk x)=qkd (ev st fr x):=rfl
theorem jpp {b:Nat}:qkd (some (.s (.ptr b o)))=some (.s (.ptr b o)):=rfl
theorem jt3 {cs:List SV}:qkd (some (.s (.cp cs)))=some (.s (.cp cs)):=rfl
def qzi (x:Option AV):Option AV:=ob x jyw
theorem j8g {x:Od}:pop st fr (.len x)=qzi (ev st fr x):=rfl
theorem jpq:qzi (some v)=jyw v:=rfl
def qzj (size:Nat) (x y:Option AV):Option AV:=ob x (fun v=>ob y (fun w=>jyx size v w))
theorem j8h {size:Nat} {x i:Od}:pop st fr (.ixs size x i)=qzj size (ev st fr x) (ev st fr i):=rfl
theorem jpr {size:Nat}:qzj size (some v) (some w)=jyx size v w:=rfl
def qzk (n size:Nat) (x y:Option AV):Option AV:=ob x (fun v=>ob y (fun w=>qgj n size v w))
theorem j8i {n size:Nat} {x i:Od}:pop st fr (.ixa n size x i)=qzk n size (ev st fr x) (ev st fr i):=rfl
theorem jps {n size:Nat}:qzk n size (some v) (some w)=qgj n size v w:=rfl
def qrz (x:Option AV) (a b:Od) (st fr:List AV):Option AV:=ob x (fun v=>jio v (fun t=>ev st fr (oif t a b)))
theorem j0c {c a b:Od}:pop st fr (.pick c a b)=qrz (ev st fr c) a b st fr:=rfl
theorem jl6 {a b:Od}:qrz (some (.s (.bool t))) a b st fr=if t=true then ev st fr a else ev st fr b:=by cases t<;>rfl
def qzl (i:Nat) (x:Option AV):Option AV:=ob x (fun v=>AV.casesOn (motive:=fun _=>Option AV) v (fun _=>none) (fun _=>none) (fun l=>ob (jeh l i) (fun p=>jf5 p.1 p.2)) none none)
theorem j8j {x:Od}:pop st fr (.ext i x)=qzl i (ev st fr x):=rfl
def mk1 (p:Option (Bool×List SV)):Option AV:=ob p (fun p=>jf5 p.1 p.2)
theorem jt4 {a:Bool} {l:List SV}:mk1 (some (a,l))=jf5 a l:=rfl
theorem jt5 {l:List (Bool×List SV)}:qzl i (some (.tup l))=mk1 (jeh l i):=rfl
def ldR (h:Hp) (agg:Bool) (cs:Option (List SV)):R:=ob cs (fun cs=>ob (jf5 agg cs) (fun v=>ok v h))
theorem qke {cs:List SV}:ldR h true (some cs)=some (.agg cs,h):=rfl
theorem qkf {a:SV}:ldR h false (some [a])=some (.s a,h):=rfl
def qkg (h:Hp) (n:Nat) (agg:Bool) (x:Option AV):R:=ob x (fun v=>ob (jmy h n agg v) (fun v=>ok v h))
theorem j0d {n:Nat} {x:Od}:jfh st fr h (.load n agg x)=qkg h n agg (ev st fr x):=j2g
theorem jpt {n b:Nat}:qkg h n agg (some (.s (.ptr b o)))=ldR h agg (rdB (h.get b) o n):=by
 show ob (ob (rdB (h.get b) o n) _) _=_
 rw[qj8];rfl
theorem jt6 {n:Nat} {cs:List SV}:qkg h n agg (some (.s (.cp cs)))=ldR h agg (jb6 n cs):=by
 show ob (ob (jb6 n cs) _) _=_
 rw[qj8];rfl
def jik (h:Hp) (n:Nat) (x y:Option AV):R:=ob x (fun p=>ob y (fun v=>j75 h n p v))
theorem jt7 {n:Nat} {x v:Od}:jfh st fr h (.store n x v)=jik h n (ev st fr x) (ev st fr v):=rfl
def stR (h:Option Hp):R:=ob h (fun h=>ok .undef h)
theorem jt8:stR (some h)=some (.undef,h):=rfl
theorem qeh {b:Nat} {x:SV} (k:Ok h):jik h 1 (some (.s (.ptr b o))) (some (.s x))=stR (wrB h b (h.get b) o [x]):=qef k
theorem j5m {n b:Nat} {cs:List SV} (k:Ok h) (hn:cs.length=n):jik h n (some (.s (.ptr b o))) (some (.agg cs))=stR (wrB h b (h.get b) o cs):=j5i k hn
def qzm (h:Hp) (e:TypeId) (size bytes:Nat) (x y:Option AV):R:=ob x (fun v=>ob y (fun w=>jq2 h e size bytes v w))
theorem j8k {e:TypeId} {size:Nat} {x y:Od}:jfh st fr h (.app e size bytes x y)=qzm h e size bytes (ev st fr x) (ev st fr y):=rfl
theorem jpu {e:TypeId} {size:Nat}:qzm h e size bytes (some v) (some w)=jq2 h e size bytes v w:=rfl
def bsO (h:Hp) (e:TypeId) (size len:Nat) (x:Option (List SV)):R:=ob x (fun cs=>some (.s (.slice h.next 0 len len true size),h.push (.arr cs e)))
theorem jt9 {e:TypeId} {size len:Nat} {cs:List SV}:bsO h e size len (some cs)=some (.s (.slice h.next 0 len len true size),h.push (.arr cs e)):=rfl
theorem j8l {e:TypeId} {size:Nat} {len:Nat} {ps:List (Nat×Nat×Od)} (k:Ok h):jfh st fr h (.bslice e size z len ps)=bsO h e size len (fill st fr ps z):=j5j k
def qvk (h:Hp) (e:TypeId) (x:Option AV):R:=ob x (fun v=>cel v (fun cs=>some (.s (.ptr h.next 0),h.push (.arr cs e))))
theorem qr0 {e:TypeId} {x:Od} (k:Ok h):jfh st fr h (.box e x)=qvk h e (ev st fr x):=qka k
theorem j8m {e:TypeId} {x:SV}:qvk h e (some (.s x))=some (.s (.ptr h.next 0),h.push (.arr [x] e)):=rfl
theorem jua {e:TypeId} {cs:List SV}:qvk h e (some (.agg cs))=some (.s (.ptr h.next 0),h.push (.arr cs e)):=rfl
def qzn (h:Hp) (e:TypeId) (size bytes:Nat) (z:List SV) (x y:Option AV):R:=ob x (fun v=>ob y (fun u=>qry h e size bytes z v u))
theorem jl7 {e:TypeId} {size:Nat} {l c:Od}:jfh st fr h (.mkslice e size bytes z l c)=qzn h e size bytes z (ev st fr l) (ev st fr c):=rfl
theorem jpv {e:TypeId} {size:Nat}:qzn h e size bytes z (some v) (some w)=qry h e size bytes z v w:=rfl
def re1 (h:Hp) (x:Option (Bool×List SV)):R:=ob x (fun p=>ob (jf5 p.1 p.2) (fun v=>some (v,h)))
theorem j8n {r:IR}:jca (.mk fr h) [r]=re1 h (jmu fr h r):=j5k
theorem qkh {a:SV}:re1 h (some (false,[a]))=some (.s a,h):=rfl
theorem qki {l:List SV}:re1 h (some (true,l))=some (.agg l,h):=rfl
def reT (g:Option AV):Option (Bool×List SV):=ob g qz0
theorem j8o:jmu fr h (.tmp g)=reT (jeh fr g):=rfl
theorem qkj {x:SV}:reT (some (.s x))=some (false,[x]):=rfl
theorem j0e {x:List SV}:reT (some (.agg x))=some (true,x):=rfl
def reC (h:Hp) (n:Nat) (agg:Bool) (g:Option AV):Option (Bool×List SV):=ob g (fun v=>jv5 v (fun b off=>ob (rdB (h.get b) off n) (fun cs=>some (agg,cs))))
theorem j0f {n:Nat}:jmu fr h (.cell g n agg)=reC h n agg (jeh fr g):=rfl
def reP (agg:Bool) (x:Option (List SV)):Option (Bool×List SV):=ob x (fun cs=>some (agg,cs))
theorem jub {cs:List SV}:reP agg (some cs)=some (agg,cs):=rfl
theorem j0g {n b:Nat}:reC h n agg (some (.s (.ptr b o)))=reP agg (rdB (h.get b) o n):=rfl
def qwl (x:R) (Q:AV->Hp->Prop):Prop:=obP x (fun p=>Q p.1 p.2)
theorem jpw {Q:AV->Hp->Prop}:qwl (some (v,h)) Q=Q v h:=jch
theorem ji0 {res:List IR} {Q:AV->Hp->Prop}:qc9 res Q .normal s=qwl (jca s res) Q:=rfl
theorem juc {res:List IR} {Q:AV->Hp->Prop}:qc9 res Q .ret s=qwl (jca s res) Q:=rfl
def re2 (h:Hp) (x:Option (List (Bool×List SV))):R:=ob x (fun vs=>some (.tup vs,h))
theorem jud {l:List (Bool×List SV)}:re2 h (some l)=some (.tup l,h):=rfl
theorem j8p {r r':IR} {k:List IR}:jca (.mk fr h) (r::r'::k)=re2 h (jf8 fr h (r::r'::k)):=j5l
theorem jcj {size b off len mc sz:Nat} {ex:Bool} (hm:1<len):jyx size (.s (.slice b off len mc ex sz)) (vi 1)=some (.s (.ptr b (off+size))):=by
 have:=jbf (size:=size) (b:=b) (off:=off) (len:=len) (mc:=mc) (sz:=sz) (ex:=ex) hm
 rw[Nat.one_mul] at this;exact this
theorem jdx {n size b off:Nat} (hm:0<n):qgj n size (.s (.ptr b off)) (vi 0)=some (.s (.ptr b off)):=by
 have:=jct (n:=n) (size:=size) (b:=b) (off:=off) hm
 rw[f2y,f1n] at this;exact this
theorem jdy {n size b off:Nat} (hm:1<n):qgj n size (.s (.ptr b off)) (vi 1)=some (.s (.ptr b (off+size))):=by
 have:=jct (n:=n) (size:=size) (b:=b) (off:=off) hm
 rw[Nat.one_mul] at this;exact this
theorem jen {n size:Nat} {cs:List SV} (hm:0<n):qgj n size (.s (.cp cs)) (vi 0)=some (.s (.cp cs)):=by
 have:=je6 (n:=n) (size:=size) (cs:=cs) hm
 rw[f2y] at this;exact this
theorem jeo {n size:Nat} {cs:List SV} (hm:1<n):qgj n size (.s (.cp cs)) (vi 1)=some (.s (.cp (jcl size cs))):=by
 have:=je6 (n:=n) (size:=size) (cs:=cs) hm
 rw[Nat.one_mul] at this;exact this
theorem jue [k:Ok h]:h.hid=[]:=k.hid
theorem jj4 [k:Ok h] {n:Nat} {hid:List (Nat×Nat)}:(h.hide lo hid).get n=if jat hid n=true then none else h.get n:=qee k
theorem jj5 [k:Ok h] {e:TypeId} {size:Nat} {len:Nat} {ps:List (Nat×Nat×Od)}:jfh st fr h (.bslice e size z len ps)=bsO h e size len (fill st fr ps z):=j8l k
theorem juf [k:Ok h] {e:TypeId} {x:Od}:jfh st fr h (.box e x)=qvk h e (ev st fr x):=qr0 k
theorem jj6 [k:Ok h] {e:TypeId}:jfh st fr h (.new e z)=some (.s (.ptr h.next 0),h.push (.arr z e)):=qj9 k
theorem jug [k:Ok h] {b:Nat} {x:SV}:jik h 1 (some (.s (.ptr b o))) (some (.s x))=stR (wrB h b (h.get b) o [x]):=qeh k
theorem jj7 [k:Ok h] {n b:Nat} {cs:List SV} (hn:cs.length=n):jik h n (some (.s (.ptr b o))) (some (.agg cs))=stR (wrB h b (h.get b) o cs):=j5m k hn
theorem jj8 [k:Ok h] {b:Nat} {t:SV}:jik h 2 (some (.s (.ptr b o))) (some (.agg [t,u]))=stR (wrB h b (h.get b) o [t,u]):=jj7 rfl
theorem jj9 [k:Ok h] {b:Nat} {t v:SV}:jik h 3 (some (.s (.ptr b o))) (some (.agg [t,u,v]))=stR (wrB h b (h.get b) o [t,u,v]):=jj7 rfl
theorem jka [k:Ok h] {b:Nat} {t v w:SV}:jik h 4 (some (.s (.ptr b o))) (some (.agg [t,u,v,w]))=stR (wrB h b (h.get b) o [t,u,v,w]):=jj7 rfl
theorem jkb [k:Ok h] {b:Nat} {t v w x:SV}:jik h 5 (some (.s (.ptr b o))) (some (.agg [t,u,v,w,x]))=stR (wrB h b (h.get b) o [t,u,v,w,x]):=jj7 rfl
theorem jkc [k:Ok h] {b:Nat} {t v w x y z:SV}:jik h 7 (some (.s (.ptr b o))) (some (.agg [t,u,v,w,x,y,z]))=stR (wrB h b (h.get b) o [t,u,v,w,x,y,z]):=jj7 rfl
theorem jkd [k:Ok h] {x:AB} {n:Nat}:(h.push x).get n=if n=h.next then some x else h.get n:=jau k
theorem jke [k:Ok h] {b n:Nat} {x:Option AB} (hb:1<=b):(h.put b x).get n=if n=b then x else h.get n:=jaj k hb
def mkL (agg:Bool) (x:Option (List SV)):Option AV:=ob x (fun cs=>jf5 agg cs)
theorem qkk {cs:List SV}:mkL true (some cs)=some (.agg cs):=rfl
theorem qkl {a:SV}:mkL false (some [a])=some (.s a):=rfl
theorem j8q {n b:Nat}:jmy h n agg (.s (.ptr b o))=mkL agg (rdB (h.get b) o n):=rfl
theorem qkm {n:Nat} {cs:List SV}:jmy h n agg (.s (.cp cs))=mkL agg (jb6 n cs):=rfl
theorem qkn {a b:Int} (h1:0<=a) (h3:0<b):0<=a % b/\a % b<=a:=by
 have h2:=Int.emod_add_mul_ediv a b
 have h:=Int.ediv_nonneg h1 (Int.le_of_lt h3)
 have h4:=Int.mul_nonneg (Int.le_of_lt h3) h
 exact⟨Int.emod_nonneg a (by omega),by omega⟩
theorem jd8 {a b:Int} (h1:0<=a) (h2:a<=9223372036854775807) (h3:0<b):jcw .rem (.int .i64 a) (.int .i64 b)=some (vi (a % b)):=by
 have:=qkn h1 h3
 rw[jzx,if_neg (by omega),f3d h1,jh4 (by omega) (by omega)]
theorem j8r {a b:Int} (h1:-9223372036854775808<=a) (h2:a<=9223372036854775807) (h3:0<b):-9223372036854775808<=a.tdiv b/\a.tdiv b<=9223372036854775807:=by
 have h:=Int.natAbs_tdiv_le_natAbs a b
 rcases(by omega:a<0∨0<=a) with h4 | h4
 .have h5:a.tdiv b<=0:=by
   obtain⟨c,rfl⟩:∃ c,a=-c:=⟨-a,by omega⟩
   rw[Int.neg_tdiv]
   have:=Int.tdiv_nonneg (a:=c) (b:=b) (by omega) (Int.le_of_lt h3)
   omega
  omega
 .omega
theorem je8 {a b:Int} (h1:-9223372036854775808<=a) (h2:a<=9223372036854775807) (h3:0<b):jcw .quo (.int .i64 a) (.int .i64 b)=some (vi (a.tdiv b)):=by
 have:=j8r h1 h2 h3
 rw[qj5,if_neg (by omega),jh4 this.1 this.2]
theorem ji1 {a n:Int} {k:IntKind} (h1:0<=n) (h2:n<=63):jcw .shr (.int .i64 a) (.int k n)=some (vi (a / 2 ^ n.toNat)):=by
 obtain⟨m,rfl⟩:=Int.eq_ofNat_of_zero_le h1
 exact qj6 (by omega)
theorem jep {a n:Nat}:(a=a+(n+1))=False:=eq_false (by omega)
theorem jeq {a n:Nat}:(a+(n+1)=a)=False:=eq_false (by omega)
theorem qei {e:TypeId} {x:SV} (ok:Ok h) (h1:bytes<=1000):qry h e 1 bytes [x] (vi 2) (vi 2)=some (.s (.slice h.next 0 2 2 true 1),h.push (.arr [x,x] e)) :=
 jpg (m:=2) ok (by omega) (by omega)
theorem jgs [ok:Ok h] {e:TypeId} {x:SV} (h1:bytes<=1000):qry h e 1 bytes [x] (vi 2) (vi 2)=some (.s (.slice h.next 0 2 2 true 1),h.push (.arr [x,x] e)):=qei ok h1
theorem jja {a b:Nat} (h:a≠b):(a=b)=False:=eq_false h
theorem jdr {a b:Nat} (h:b<a):(a<=b)=False:=eq_false (by omega)
theorem jds {a b:Nat} (h:b<=a):(a<b)=False:=eq_false (by omega)
theorem jjb {a b:Nat} (h:a<=b):(a<=b)=True:=eq_true h
theorem jjc {a b:Nat} (h:a<b):(a<b)=True:=eq_true h
theorem qz2 {a b:Int} (h:a<=b):(a<=b)=True:=eq_true h
theorem qz3 {a b:Int} (h:a<b):(a<b)=True:=eq_true h
def qko (F:Fns) (dst:Option Nat) (m:List (IOper×Option (List Nat))) (st:List AV) (es:List Ent) (fr:List AV) (h:Hp) (Q:Ex->St->Prop) (v:AV) (h':Hp):Prop:=WD F m (v::st) (.mk [(h.next,h'.next)] none::es) (jcx fr dst v) (.mk h'.next h'.tr h.lo h.hid) Q
def zkH (F:Fns) (x:Option (List (Nat×Nat))) (vs:Option (List AV)) (f:FuncId) (dst:Option Nat) (m:List (IOper×Option (List Nat))) (st:List AV) (es:List Ent) (fr:List AV) (h:Hp) (Q:Ex->St->Prop):Prop:=obP x (fun hid'=>obP vs (fun vs=>WC F f vs (h.hide h.next hid') (qko F dst m st es fr h Q)))
theorem juh {x:List (Nat×Nat)} {f:FuncId}:zkH F (some x) (some vs) f dst m st es fr h Q=WC F f vs (h.hide h.next x) (qko F dst m st es fr h Q):=by
 unfold zkH;rw[jch,jch]
theorem jl8 {x:List (Nat×Nat)}:qko F dst m st es fr h Q v (h.hide lo x)=WD F m (v::st) (.mk [(h.next,h.next)] none::es) (jcx fr dst v) h Q:=by cases h;rfl
theorem jgt {f:FuncId} {as:List Od}:WD F ((.mk dst (.a (.call f as)) none,some js)::m) st es fr h Q=zkH F (sel es js h.hid) (evs st fr as) f dst m st es fr h Q:=by
 cases h with
 | mk k t lo hid =>
 rw[jov]
 have key:∀ n v h' e,jyu (jbs F (run F n)) st fr es (.mk k t lo hid) (.a (.call f as)) none (some js)=some (.mk v h' e)↔∃ x vs h1,sel es js hid=some x/\evs st fr as=some vs/\jbs F (run F n) f vs (.mk k t k x)=some (v,h1)/\h'=.mk h1.next h1.tr lo hid/\e=.mk [(k,h1.next)] none:=fun n v h' e=>by
  have e0:jyu (jbs F (run F n)) st fr es (.mk k t lo hid) (.a (.call f as)) none (some js)=ob (sel es js hid) (fun x=>ob (ob (evs st fr as) (fun vs=>jbs F (run F n) f vs (.mk k t k x))) (fun p=>Hp.casesOn (motive:=fun _=>Option DR) p.2 (fun n' t' _ _=>some (.mk p.1 (.mk n' t' lo hid) (.mk [(k,n')] none))))):=rfl
  rw[e0]
  constructor
  .intro h1
   obtain⟨x,hx,h2⟩:=jaa.1 h1
   obtain⟨p,hp,h3⟩:=jaa.1 h2
   obtain⟨vs,hvs,h4⟩:=jaa.1 hp
   obtain⟨v1,⟨n1,t1,l1,d1⟩⟩:=p
   cases h3
   exact⟨x,vs,_,hx,hvs,h4,rfl,rfl⟩
  .rintro ⟨x,vs,⟨n1,t1,l1,d1⟩,hx,hvs,h4,rfl,rfl⟩
   exact jaa.2 ⟨x,hx,jaa.2 ⟨(v,.mk n1 t1 l1 d1),jaa.2 ⟨vs,hvs,h4⟩,rfl⟩⟩
 refine propext ⟨fun⟨n,v,h',e,h1,h2⟩=>?_,fun⟨x,hx,vs,hvs,n,v,h1,h2,h3⟩=>⟨n,v,_,_,(key n v _ _).2 ⟨x,vs,h1,hx,hvs,h2,rfl,rfl⟩,h3⟩⟩
 obtain⟨x,vs,h3,hx,hvs,h4,rfl,rfl⟩:=(key n v h' e).1 h1
 exact⟨x,hx,vs,hvs,n,v,h3,h4,h2⟩
theorem jdh {a:Nat} {n:Nat}:((a:Int) / 2 ^ n)=((a / 2 ^ n:Nat):Int):=by
 rw[Int.natCast_ediv,f3q];rfl
theorem jdi:(4+(i:Int)).toNat=4+i:=by omega
theorem jdj:(9+(i:Int)).toNat=9+i:=by omega
theorem jdk:(i:Int).toNat=i:=by omega
theorem ji2 {a:Nat}:decide ((a:Int) % 2=1)=decide (a % 2=1):=decide_eq_decide.2 (by omega)
theorem je9 {a:Nat}:(a:Int).tdiv 4=((a / 4:Nat):Int):=rfl
theorem jfa {a:Nat}:(a:Int).tdiv 5=((a / 5:Nat):Int):=rfl
theorem jgf {x:Option AB} {off sz:Nat} {c:SV} (hr:rdB x off sz=some row) (hj:row[j]?=some c):rdB x (off+j) 1=some [c]:=by
 cases x with
 | none=>cases hr
 | some x =>
  cases x with
  | map va es=>cases hr
  | arr cs ty =>
   rw[je5,jb7] at hr ⊢
   obtain⟨h1,rfl⟩:=(jbe _).1 hr
   have hjs:j<sz:=by
    rcases f0i j sz with h | h
    .exact h
    .rw [f0j (by simp;omega)] at hj;cases hj
   have hj2:cs[off+j]?=some c:=by
    rw[f2h,if_pos hjs,f1l] at hj;exact hj
   have hl:off+j<cs.length:=by
    rcases f0i (off+j) cs.length with h | h
    .exact h
    .rw [f0j h] at hj2;cases hj2
   refine(jbe _).2 ⟨by simp;omega,?_⟩
   have e:cs.drop (off+j)=c::cs.drop (off+j+1):=by
    rw[f03 hl]
    rw[f0a hl] at hj2
    rw[Option.some.inj hj2]
   rw[e];rfl
def mmV (mx:Bool) (x y:Option AV):Option AV:=ob x (fun a=>ob y (fun b=>jm4 a (fun k m=>jm4 b (fun k' n=>oif (Nat.beq (ikn k) (ikn k')) (some (.s (.int k (oif (ile m n) (oif mx n m) (oif mx m n))))) none))))
theorem qkp {mx:Bool} {x y:Od}:pop st fr (.mm mx x y)=mmV mx (ev st fr x) (ev st fr y):=rfl
theorem j0h {a b:Int}:mmV false (some (.s (.int .i64 a))) (some (.s (.int .i64 b)))=some (vi (if a<=b then a else b)):=by
 show some (AV.s (.int .i64 (oif (ile a b) a b)))=_
 rw[jaz,jej];simp only[decide_eq_true_eq]
theorem j0i {a b:Int}:mmV true (some (.s (.int .i64 a))) (some (.s (.int .i64 b)))=some (vi (if a<=b then b else a)):=by
 show some (AV.s (.int .i64 (oif (ile a b) b a)))=_
 rw[jaz,jej];simp only[decide_eq_true_eq]
end
theorem qz4:type_of% @Int.cast_ofNat_Int:=@Int.cast_ofNat_Int
theorem qz5:type_of% @Int.natCast_zero:=@Int.natCast_zero
theorem qz6:type_of% @Int.natCast_one:=@Int.natCast_one
theorem qz7:type_of% @decide_eq_true_eq:=@decide_eq_true_eq
theorem qz8:type_of% @decide_eq_false_iff_not:=@decide_eq_false_iff_not
theorem qz9:type_of% @Bool.false_eq_true:=@Bool.false_eq_true
theorem q0a:type_of% @and_true:=@and_true
theorem q0b:type_of% @true_and:=@true_and
theorem q0c:type_of% @List.cons_append:=@List.cons_append
theorem q0d:type_of% @List.nil_append:=@List.nil_append
theorem qwm:type_of% @decide_true:=@decide_true
theorem qwn:type_of% @decide_false:=@decide_false
theorem qwo:type_of% @Bool.not_true:=@Bool.not_true
theorem qwp:type_of% @Bool.not_false:=@Bool.not_false
theorem qwq:type_of% @Nat.add_zero:=@Nat.add_zero
theorem qwr:type_of% @Nat.zero_add:=@Nat.zero_add
theorem qws:type_of% @Option.some.injEq:=@Option.some.injEq
theorem qwt:type_of% @Bool.true_eq_false:=@Bool.true_eq_false
theorem qwu:type_of% @not_true_eq_false:=@not_true_eq_false
theorem qwv:type_of% @not_false_eq_true:=@not_false_eq_true
theorem qww:type_of% @Hp.next_push:=@Hp.next_push
theorem qwx:type_of% @Hp.next_put:=@Hp.next_put
theorem qwy:type_of% @Nat.add_assoc:=@Nat.add_assoc
attribute [go_sem] jgt juh jl8 j7m qjx j7n qd6 jzm jz0 jts js9 j7o j7p jz1 jtn jz2 jtq jtp jtt jtr jph jto j7r jz3 jtu jtv jz4 jtx jtw jtz jty jpi jhl jpj jhm jpk jf3 jpl jz5 jj3 jfw jlq jor jiu jos js8 jhi jlr jot j78 j8a jpm jl4 jz6 jt0 j8c jz8 j79 j8b jpn jl5 jz7 jt1 j8d jz9 qwe qwf qwg jzn jta joz jo0 jo1 jo2 jo3 jo4 jiw jix qwh qwi jbc qj3 jo5 jtb jlt jtc jlu qj4 jzo j7u j7v j7w jtd jlv jlw jh3 jlx jo6 jte jo7 jo8 jly jhj jdp jo9 jzp jzq qkp j0h j0i j7x j0c jl6 jpa jtf jpb j8e jpo jzr jzs j8f jt2 j0a jtg j8j jt5 jt4 j0b jpp jt3 jth jj1 jti jpc jlz jiy jpd jtj jtk j8g jpq jtl jj2 jl0 jpe jzu jzv jzw je8 jd8 ji1 j7z j70 j71 j72 j73 j74 j8h jpr j8i jps j8n qkh qki j8o qkj j0e j0f jub j0g jpw ji0 juc jl2 je7 jl3 j8p jud qeg je5 jpf j0d jpt jt6 qke qkf jt7 jt8 jl7 jpv j8k jpu jt9 j8m jua jzz j77 jzy jtm jl1 jiz j8q qkm qkk qkl jep jeq jcj jct je6 jdx jdy jen jeo jue jj4 jj5 juf jj6 jug jj8 jj9 jka jkb jkc jj7 jkd jke jgs jci jbf qz4 qz5 qz6 qz7 qz8 qz9 q0a q0b q0c q0d qwm qwn qwo qwp qwq qwr qws qwt qwu qwv qww qwx qwy
end
end Go.Proofs.Ytehhjbfmjdlcjaa.Ev
