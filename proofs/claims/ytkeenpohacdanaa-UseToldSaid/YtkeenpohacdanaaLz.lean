/- Open runs: what operations answer at values that are known in part. No program in sight. -/
import Derived.Test.YtkeenpohacdanaaOp
namespace Go.Proofs.Ytkeenpohacdanaa.Ev
noncomputable section
open Go Go.RowKit
set_option linter.all false
variable {t agg ex':Bool} {rows:List (List SV)} {vs:List AV} {js:List Nat} {z xs row:List SV} {g i j o b' lo o' mc' sz' bytes:Nat} {u:SV}
abbrev vi (n:Int):AV:=.s (.int .i64 n)
abbrev vb (b:Bool):AV:=.s (.bool b)
abbrev si (n:Int):SV:=.int .i64 n
section
variable {st fr:List AV} {h:Hp} {α β:Type}
theorem qne:ev st fr (.l i)=jd7 st i:=rfl
theorem qnf:ev st fr (.g i)=jd7 fr i:=rfl
theorem qng {v:AV}:ev st fr (.c v)=some v:=rfl
theorem jw5:evs st fr []=some []:=rfl
theorem jrq {o:Od} {l:List Od}:evs st fr (o::l)=ob (ev st fr o) (fun v=>ob (evs st fr l) (fun r=>some (v::r))):=rfl
theorem jn2 {a:α} {l:List α}:jd7 (a::l) 0=some a:=rfl
theorem jn3 {a:α} {l:List α} {n:Nat}:jd7 (a::l) (n+1)=jd7 l n:=rfl
theorem jn4 {a x:α} {l:List α}:jt1 (a::l) 0 x=x::l:=rfl
theorem jn5 {a x:α} {l:List α} {n:Nat}:jt1 (a::l) (n+1) x=a::jt1 l n x:=rfl
theorem jn6 {v:AV}:jcn fr none v=fr:=rfl
theorem jn7 {d:Nat} {v:AV}:jcn fr (some d) v=jt1 fr d v:=rfl
theorem jia:jc0 0=[]:=rfl
theorem jib {n:Nat}:jc0 (n+1)=.undef::jc0 n:=rfl
theorem qnh {a:α} {f:α->Option β}:ob (some a) f=f a:=rfl
theorem qni {f:α->Option β}:ob none f=none:=rfl
theorem jbi {b:Bool} {x y:α}:oif b x y=if b=true then x else y:=by cases b<;>rfl
theorem qdd {e:Option β} {x:SV} {f:SV->Option β}:svc e (.s x) f=f x:=rfl
theorem jn8 {e:Option β} {f:SV->Option β}:svc e .undef f=e:=rfl
theorem jrr {k:IntKind} {n:Int} {f:IntKind->Int->Option β}:qb6 (.int k n) f=f k n:=rfl
theorem jk0 {b:Bool} {f:Bool->Option β}:jpm (.bool b) f=f b:=rfl
theorem jrs {k:IntKind} {n:Int} {f:IntKind->Int->Option β}:jj7 (.s (.int k n)) f=f k n:=rfl
theorem jk1 {b:Bool} {f:Bool->Option β}:jh0 (.s (.bool b)) f=f b:=rfl
theorem qde {x:SV} {f:List SV->Option β}:cel (.s x) f=f [x]:=rfl
theorem jw6 {l:List SV} {f:List SV->Option β}:cel (.agg l) f=f l:=rfl
theorem j30 {a:SV}:jfr false [a]=some (.s a):=rfl
theorem j31 {l:List SV}:jfr true l=some (.agg l):=rfl
theorem j32 {x:SV} {f:List SV->Option β}:j7u false (.s x) f=f [x]:=rfl
theorem jrt {l:List SV} {f:List SV->Option β}:j7u true (.agg l) f=f l:=rfl
theorem jk2 {l:List α}:jb2 0 l=some []:=rfl
theorem jk3 {a:α} {l:List α} {n:Nat}:jb2 (n+1) (a::l)=ob (jb2 n l) (fun x=>some (a::x)):=rfl
theorem jk4 {l:List α}:jb9 0 l=l:=rfl
theorem jk5 {a:α} {l:List α} {n:Nat}:jb9 (n+1) (a::l)=jb9 n l:=rfl
theorem jn9 {n:Nat}:jb9 n ([]:List α)=[]:=by cases n<;>rfl
theorem jru:jdj ([]:List α)=0:=rfl
theorem joa {a:α} {l:List α}:jdj (a::l)=jdj l+1:=rfl
theorem job {l:List α}:jmu [] l=some l:=rfl
theorem jk6 {x a:α} {xs l:List α}:jmu (x::xs) (a::l)=ob (jmu xs l) (fun y=>some (x::y)):=rfl
theorem jg2 {xs l:List α}:jbm 0 xs l=jmu xs l:=rfl
theorem jde {a:α} {xs l:List α} {n:Nat}:jbm (n+1) xs (a::l)=ob (jbm n xs l) (fun y=>some (a::y)):=rfl
theorem joc {a:Nat}:Nat.beq a a=true:=f1z a
theorem jw7 {a b:Nat}:(Nat.beq a b=true)=(a=b):=jgi a b
theorem jw8 {a b:Nat}:(Nat.ble a b=true)=(a<=b):=jt3 a b
theorem j33 {x:Od}:pop st fr (.mv x)=ev st fr x:=rfl
theorem jod {ps:List (Nat×Nat×Od)}:pop st fr (.build z ps)=ob (fill st fr ps z) (fun cs=>some (.agg cs)):=rfl
theorem jrv {cs:List SV}:fill st fr [] cs=some cs:=rfl
theorem joe {off n:Nat} {o:Od} {ps:List (Nat×Nat×Od)} {cs:List SV}:fill st fr ((off,n,o)::ps) cs=ob (ev st fr o) (fun v=>cel v (fun xs=>oif (Nat.beq (jdj xs) n) (ob (jbm off xs cs) (fill st fr ps)) none)):=rfl
theorem jw9 {x:Od}:pop st fr (.not x)=ob (ev st fr x) (fun v=>jh0 v (fun b=>some (.s (.bool (!b))))):=by
 show ob (ev st fr x) (fun v=>jh0 v (fun b=>some (AV.s (.bool (jkb b)))))=_
 congr 1;funext v;congr 1;funext b;cases b<;>rfl
theorem jxa {x:Od}:pop st fr (.neg x)=ob (ev st fr x) (fun v=>jj7 v (fun k n=>j2c k (-n))):=rfl
theorem jrw {off n:Nat} {x:Od}:pop st fr (.fval off n agg x)=none:=rfl
theorem jrx {k:IntKind} {x:Od}:pop st fr (.conv k x)=ob (ev st fr x) (fun v=>jj7 v (fun _ n=>j7t k n)):=rfl
theorem jjd {f:FuncId} {cs:List Od}:pop st fr (.mkfun f cs)=ob (evs st fr cs) (fun vs=>ob (j93 vs) (fun ps=>some (.s (.func f ps)))):=rfl
theorem jry:j93 []=some []:=rfl
theorem jof {b:Nat} {l:List AV}:j93 (.s (.ptr b o)::l)=ob (j93 l) (fun r=>some ((b,o)::r)):=rfl
theorem jk7:jfs []=[]:=rfl
theorem jic {b:Nat} {l:List (Nat×Nat)}:jfs ((b,o)::l)=.s (.ptr b o)::jfs l:=rfl
theorem jog {b:Nat} {f:Nat->Nat->Option β} {g:List SV->Option β}:jep (.s (.ptr b o)) f g=f b o:=rfl
theorem jrz {cs:List SV} {f:Nat->Nat->Option β} {g:List SV->Option β}:jep (.s (.cp cs)) f g=g cs:=rfl
theorem jr0 {b:Nat} {f:Nat->Nat->Option β}:jt2 (.s (.ptr b o)) f=f b o:=rfl
def jxb (v:AV):Option AV:=jcq v (some (.s (.int .i64 0))) (fun _ _ n _ _ _=>some (.s (.int .i64 (Int.ofNat n)))) (fun rows=>some (.s (.int .i64 (Int.ofNat (jdj rows))))) (some (.s (.int .i64 0)))
theorem jr1:jxb (.s .nilSlice)=some (vi 0):=rfl
theorem jje:jxb (.s (.lst rows))=some (vi rows.length):=by
 show some (AV.s (.int .i64 (Int.ofNat (jdj rows))))=_
 rw[jbu];rfl
theorem jk8 {b n mc sz:Nat} {e:Bool}:jxb (.s (.slice b o n mc e sz))=some (vi n):=rfl
def j34 (n:Int):Option AV:=if -9223372036854775808<=n/\n<=9223372036854775807 then some (vi n) else none
theorem j8t {n:Int} (h1:-9223372036854775808<=n) (h2:n<=9223372036854775807):inR .i64 n=true:=by
 cases n with
 | ofNat m=>exact(jt3 m 9223372036854775807).symm▸(by have:(m:Int)<=9223372036854775807:=h2
                                                      omega)
 | negSucc m=>exact(jt3 m 9223372036854775807).symm▸(by have:-9223372036854775808<=Int.negSucc m:=h1
                                                        omega)
theorem joh {n:Int}:j2c .i64 n=j34 n:=by
 unfold j34
 show oif (inR .i64 n) (some (AV.s (.int .i64 n))) none=_
 split
 .rename_i h;rw[j8t h.1 h.2];rfl
 .rename_i h
  cases e:inR .i64 n with
  | false=>rfl
  | true =>
   rcases jel e with⟨_,a,b⟩ | ⟨e,_⟩ | ⟨e,_⟩
   .exact absurd ⟨a,b⟩ h
   .cases e
   .cases e
theorem jhl {n:Int} (h1:-9223372036854775808<=n) (h2:n<=9223372036854775807):j34 n=some (vi n):=if_pos ⟨h1,h2⟩
def w64 (n:Int):Int:=IntKind.wrap .i64 n
theorem jad {n:Int} (h1:-9223372036854775808<=n) (h2:n<=9223372036854775807):w64 n=n:=jit (j8t h1 h2)
theorem jxc {n:Int}:j7r .i64 n=some (vi (w64 n)):=by
 show oif (inR .i64 n) (some (AV.s (.int .i64 n))) (some (AV.s (.int .i64 (IntKind.wrap .i64 n))))=_
 cases e:inR .i64 n with
 | true=>rw[show w64 n=n from jit e];rfl
 | false=>rfl
variable {a b:Int}
theorem jxd:jd8 .add (.int .i64 a) (.int .i64 b)=some (vi (w64 (a+b))):=by
 rw[←jxc];show j7r .i64 (qil a b)=_;rw[j2p]
theorem jxe:jd8 .sub (.int .i64 a) (.int .i64 b)=some (vi (w64 (a - b))):=by rw[←jxc];rfl
theorem jxf:jd8 .mul (.int .i64 a) (.int .i64 b)=some (vi (w64 (a*b))):=by rw[←jxc];rfl
theorem qdf:jd8 .quo (.int .i64 a) (.int .i64 b)=if b=0 then none else j34 (a.tdiv b):=by
 rw[←joh]
 show oif (ieq b 0) none (j2c .i64 (a.tdiv b))=_
 rw[jat,jc5];simp only[decide_eq_true_eq]
theorem jxg:jd8 .rem (.int .i64 a) (.int .i64 b)=if b=0 then none else j34 (a.tmod b):=by
 rw[←joh]
 show oif (ieq b 0) none (j2c .i64 (a.tmod b))=_
 rw[jat,jc5];simp only[decide_eq_true_eq]
theorem j35:jd8 .eq (.int .i64 a) (.int .i64 b)=some (vb (decide (a=b))):=by
 show some (AV.s (.bool (ieq a b)))=_;rw[jc5]
theorem j36:jd8 .ne (.int .i64 a) (.int .i64 b)=some (vb (decide (a≠b))):=by
 show some (AV.s (.bool (jkb (ieq a b))))=_;rw[jc5,jgq];congr 3;by_cases h:a=b<;>simp[h]
theorem j37:jd8 .lt (.int .i64 a) (.int .i64 b)=some (vb (decide (a<b))):=by
 show some (AV.s (.bool (jkb (ile b a))))=_;rw[jea,jgq];congr 3;by_cases h:a<b<;>simp[h]
 omega
theorem j38:jd8 .le (.int .i64 a) (.int .i64 b)=some (vb (decide (a<=b))):=by
 show some (AV.s (.bool (ile a b)))=_;rw[jea]
theorem j39:jd8 .gt (.int .i64 a) (.int .i64 b)=some (vb (decide (b<a))):=by
 show some (AV.s (.bool (jkb (ile a b))))=_;rw[jea,jgq];congr 3;by_cases h:b<a<;>simp[h]
 omega
theorem j4a:jd8 .ge (.int .i64 a) (.int .i64 b)=some (vb (decide (b<=a))):=by
 show some (AV.s (.bool (ile b a)))=_;rw[jea]
theorem qdg {n:Nat} {k:IntKind} (hn:n<=63):jd8 .shr (.int .i64 a) (.int k (n:Int))=some (vi (a / 2 ^ n)):=by
 have hs:j7s .i64 n=true:=by
  have hI:jmv .i64=true:=rfl
  unfold j7s
  simp[jat,jt3,hn,hI]
 have e:jd8 .shr (.int .i64 a) (.int k (n:Int))=jt7 .shr .i64 a (n:Int):=by
  show oif (Nat.beq (ikn .i64) (ikn k)) (jt7 .shr .i64 a n) (oif true (jt7 .shr .i64 a n) none)=_
  cases Nat.beq (ikn .i64) (ikn k)<;>rfl
 rw[e]
 cases a with
 | ofNat m =>
  show oif (j7s .i64 n) (some (AV.s (.int .i64 (Int.ofNat (Nat.div m (Nat.pow 2 n)))))) none=_
  rw[hs]
  have:Int.ofNat (Nat.div m (Nat.pow 2 n))=Int.ofNat m / 2 ^ n:=by
   show((m / 2 ^ n:Nat):Int)=(m:Int) / 2 ^ n
   rw[Int.natCast_ediv,f29];rfl
  rw[this];rfl
 | negSucc m =>
  show oif (j7s .i64 n) (some (AV.s (.int .i64 (Int.negSucc (Nat.div m (Nat.pow 2 n)))))) none=_
  rw[hs]
  have:Int.negSucc (Nat.div m (Nat.pow 2 n))=Int.negSucc m / 2 ^ n:=by
   obtain⟨q,hq⟩:∃ q,2 ^ n=q+1:=⟨2 ^ n - 1,by have:=Nat.two_pow_pos n;omega⟩
   have h2:(2:Int) ^ n=((q+1:Nat):Int):=by rw[←hq,f29];rfl
   have h3:Nat.pow 2 n=q+1:=hq
   rw[h2,h3];rfl
  rw[this];rfl
theorem jf7 (h1:-9223372036854775808<=a) (h2:a<=9223372036854775807):jd8 .and (.int .i64 a) (.int .i64 1)=some (vi (a % 2)):=by
 have hr:=j8t h1 h2
 cases a with
 | ofNat m =>
  show oif (inR .i64 (.ofNat m)) (some (AV.s (.int .i64 (.ofNat (Nat.land m 1))))) none=_
  rw[hr]
  have:Int.ofNat (Nat.land m 1)=Int.ofNat m % 2:=by
   rw[show Nat.land m 1=m % 2 from f15 m];rfl
  rw[this];rfl
 | negSucc m =>
  show oif (inR .i64 (.negSucc m)) (some (AV.s (.int .i64 (.ofNat (Nat.xor 1 (Nat.land 1 m)))))) none=_
  rw[hr]
  have:Int.ofNat (Nat.xor 1 (Nat.land 1 m))=Int.negSucc m % 2:=by
   have e:Nat.land 1 m=m % 2:=(Nat.and_comm 1 m).trans (f15 m)
   rw[e]
   rcases Nat.mod_two_eq_zero_or_one m with h | h
   .rw [h];show(1:Int)=_;omega
   .rw [h];show(0:Int)=_;omega
  rw[this];rfl
theorem qdh (h1:-9223372036854775808<=a) (h2:a<=9223372036854775807):jd8 .or (.int .i64 a) (.int .i64 1)=some (vi (a+(1 - a % 2))):=by
 have hr:=j8t h1 h2
 cases a with
 | ofNat m =>
  show oif (inR .i64 (.ofNat m)) (some (AV.s (.int .i64 (.ofNat (Nat.lor m 1))))) none=_
  rw[hr]
  have:Int.ofNat (Nat.lor m 1)=Int.ofNat m+(1 - Int.ofNat m % 2):=by
   have e:m ||| 1=m+(1 - m % 2):=by
    have h1:(m ||| 1) / 2=m / 2:=by rw[Nat.or_div_two];simp
    have h2:(m ||| 1) % 2=1:=by rw[Nat.or_mod_two_eq_one];simp
    omega
   show((m ||| 1:Nat):Int)=(m:Int)+(1 - (m:Int) % 2)
   rw[e];omega
  rw[this];rfl
 | negSucc m =>
  show oif (inR .i64 (.negSucc m)) (some (AV.s (.int .i64 (.negSucc (Nat.xor m (Nat.land m 1)))))) none=_
  rw[hr]
  have:Int.negSucc (Nat.xor m (Nat.land m 1))=Int.negSucc m+(1 - Int.negSucc m % 2):=by
   have e:m ^^^ (m &&& 1)=m - m % 2:=by
    have h1:(m ^^^ (m &&& 1)) / 2=m / 2:=by rw[Nat.xor_div_two,Nat.and_div_two];simp
    have h2:¬ (m ^^^ (m &&& 1)) % 2=1:=by
     have e:m &&& 1=m % 2:=f15 m
     rw[e,Nat.xor_mod_two_eq_one];omega
    omega
   show Int.negSucc (m ^^^ (m &&& 1))=_
   rw[e];omega
  rw[this];rfl
end
class Ok (h:Hp):Prop where
 hid:h.hid=[]
 lo:h.lo=0
 pos:1<=h.next
theorem jhm {a b:Nat} (h:a<=b):Nat.ble a b=true:=by rw[jt3];exact h
theorem jec:Ok h0:=⟨rfl,rfl,f0e 1⟩
section
variable {h:Hp} {F:Fns} {st fr:List AV} {Q:Ex->St->Prop} {β:Type}
theorem jaz {x:AB} (k:Ok h):Ok (h.push x):=⟨k.hid,k.lo,f2d k.pos⟩
theorem jao {b:Nat} {x:Option AB} (k:Ok h):Ok (h.put b x):=⟨by rw[Hp.hid_put];exact k.hid,by rw[Hp.lo_put];exact k.lo,by rw[Hp.next_put];exact k.pos⟩
instance iPush {x:AB} [k:Ok h]:Ok (h.push x):=jaz k
instance iPut {b:Nat} {x:Option AB} [k:Ok h]:Ok (h.put b x):=jao k
theorem ja0 {x:AB} {n:Nat} (k:Ok h):(h.push x).get n=if n=h.next then some x else h.get n:=by
 rw[Hp.get_eq,Hp.get_eq,Hp.hid_push,k.hid]
 have e:jan [] n=false:=rfl
 rw[e]
 show(h.tr.put (Nat.succ h.next) h.next (some x)).get n=_
 split
 .rename_i hn;subst hn;exact jbs _ _ _ _ k.pos (jlp _)
 .rename_i hn;exact jbx _ _ _ _ n k.pos (jlp _) hn
theorem jai {b n:Nat} {x:Option AB} (k:Ok h) (hb:1<=b):(h.put b x).get n=if n=b then x else h.get n:=by
 rw[Hp.get_eq,Hp.get_eq,Hp.hid_put,k.hid,Hp.tr_put]
 have e:jan [] n=false:=rfl
 rw[e]
 show(h.tr.put (Nat.succ b) b x).get n=_
 split
 .rename_i hn;subst hn;exact jbs _ _ _ _ hb (jlp _)
 .rename_i hn;exact jbx _ _ _ _ n hb (jlp _) hn
def Hp.hide (h:Hp) (lo:Nat) (hid:List (Nat×Nat)):Hp:=.mk h.next h.tr lo hid
theorem jk9 {n:Nat}:jan [] n=false:=by cases n<;>rfl
theorem jid {a b n:Nat} {l:List (Nat×Nat)}:jan ((a,b)::l) n=if a<=n/\n<b then true else jan l n:=by
 show oif (Nat.ble a n) (oif (Nat.ble (n+1) b) true (jan l n)) (jan l n)=_
 simp only[jat,jt3]
 by_cases h1:a<=n
 .by_cases h2:n+1<=b
  .rw [if_pos h1,if_pos h2,if_pos ⟨h1,h2⟩]
  .rw [if_pos h1,if_neg h2,if_neg (fun h=>h2 h.2)]
 .rw [if_neg h1,if_neg (fun h=>h1 h.1)]
theorem j8u {n:Nat} {hid:List (Nat×Nat)} (k:Ok h):(h.hide lo hid).get n=if jan hid n=true then none else h.get n:=by
 rw[Hp.get_eq,Hp.get_eq,k.hid];rfl
theorem jr2 {cs:List SV} {ty:TypeId} {f:Nat->Hp->Option β} (k:Ok h):nw h cs ty f=f h.next (h.push (.arr cs ty)):=by
 cases h with
 | mk n t lo hid =>
  obtain rfl:hid=[]:=k.hid
  rfl
def rdB (x:Option AB) (off n:Nat):Option (List SV):=ob x (fun x=>AB.casesOn (motive:=fun _=>Option (List SV)) x (fun cs _=>jb2 n (jb9 off cs)) (fun _ _=>none))
theorem jdo {cs:List SV} {ty:TypeId} {off n:Nat}:rdB (some (.arr cs ty)) off n=jb2 n (jb9 off cs):=rfl
def wrB (h:Hp) (b:Nat) (x:Option AB) (off:Nat) (xs:List SV):Option Hp:=ob x (fun x=>AB.casesOn (motive:=fun _=>Option Hp) x (fun cs ty=>ob (jbm off xs cs) (fun cs'=>some (h.put b (some (.arr cs' ty))))) (fun _ _=>none))
theorem qjw {b off:Nat} (k:Ok h):wr h b off xs=wrB h b (h.get b) off xs:=by
 show oif (Nat.ble h.lo b) _ none=_
 rw[k.lo];rfl
theorem joi {b:Nat} {cs:List SV} {ty:TypeId} {off:Nat}:wrB h b (some (.arr cs ty)) off xs=ob (jbm off xs cs) (fun cs'=>some (h.put b (some (.arr cs' ty)))):=rfl
def jl5 (h:Hp) (n:Nat) (agg:Bool) (v:AV):Option AV:=jep v (fun b off=>ob (rd h b off n) (fun cs=>jfr agg cs)) (fun cs=>ob (jb2 n cs) (fun cs=>jfr agg cs))
theorem qdi {α γ:Type} {x:Option α} {f:α->Option β} {g:β->Option γ}:ob (ob x f) g=ob x (fun a=>ob (f a) g):=by cases x<;>rfl
theorem jzg {n:Nat} {x:Od}:je3 st fr h (.load n agg x)=ob (ev st fr x) (fun v=>ob (jl5 h n agg v) (fun v=>ok v h)):=by
 show ob (ev st fr x) (fun v=>jep v (fun b off=>ob (rd h b off n) (fun cs=>ob (jfr agg cs) (fun v=>ok v h))) (fun cs=>ob (jb2 n cs) (fun cs=>ob (jfr agg cs) (fun v=>ok v h))))=_
 congr 1
 funext v
 cases v with
 | s v=>cases v<;>first | rfl | (show ob _ _=ob (ob _ _) _;rw[qdi])
 | _=>rfl
def j4b (h:Hp) (n:Nat) (p v:AV):R:=jt2 p (fun b off=>cel v (fun cs=>oif (Nat.beq (jdj cs) n) (ob (wr h b off cs) (fun h=>ok .undef h)) none))
theorem j8v {b:Nat} {v:SV} (k:Ok h):j4b h 1 (.s (.ptr b o)) (.s v)=ob (wrB h b (h.get b) o [v]) (fun h=>ok .undef h):=by
 show ob (wr h b o [v]) _=_
 rw[qjw k]
theorem j1s {n b:Nat} {cs:List SV} (k:Ok h) (hn:cs.length=n):j4b h n (.s (.ptr b o)) (.agg cs)=ob (wrB h b (h.get b) o cs) (fun h=>ok .undef h):=by
 show oif (Nat.beq (jdj cs) n) (ob (wr h b o cs) _) none=_
 rw[qjw k,jbu,hn,f1z];rfl
theorem qdj {e:TypeId} (k:Ok h):je3 st fr h (.new e z)=some (.s (.ptr h.next 0),h.push (.arr z e)):=by
 show nw h z e (fun n h=>ok (.s (.ptr n 0)) h)=_
 rw[jr2 k];rfl
theorem qdk {e:TypeId} {x:Od} (k:Ok h):je3 st fr h (.box e x)=ob (ev st fr x) (fun v=>cel v (fun cs=>some (.s (.ptr h.next 0),h.push (.arr cs e)))):=by
 show ob (ev st fr x) (fun v=>cel v (fun cs=>nw h cs e (fun n h=>ok (.s (.ptr n 0)) h)))=_
 congr 1;funext v;congr 1;funext cs;rw[jr2 k];rfl
theorem j1t {e:TypeId} {size:Nat} {len:Nat} {ps:List (Nat×Nat×Od)} (k:Ok h):je3 st fr h (.bslice e size z len ps)=ob (fill st fr ps z) (fun cs=>some (.s (.slice h.next 0 len len true size),h.push (.arr cs e))):=by
 show ob (fill st fr ps z) (fun cs=>nw h cs e (fun n h=>ok (.s (.slice n 0 len len true size)) h))=_
 congr 1;funext cs;rw[jr2 k];rfl
def qjx (h:Hp) (e:TypeId) (size bytes:Nat) (z:List SV) (l c:AV):R:=j95 l (fun m=>j95 c (fun k=>oif (Nat.ble m k) (oif (Nat.ble (Nat.mul bytes k) 1000000000) (oif (Nat.ble k 1000000000) (nw h (rep z k) e (fun b h=>ok (.s (.slice b 0 m k true size)) h)) none) none) none))
theorem jxh {e:TypeId} {size:Nat} {m:Nat} (k:Ok h) (h1:bytes*m<=1000000000) (h2:m<=1000000000):qjx h e size bytes z (vi m) (vi m)=some (.s (.slice h.next 0 m m true size),h.push (.arr (rep z m) e)):=by
 show oif (Nat.ble m m) (oif (Nat.ble (Nat.mul bytes m) 1000000000) (oif (Nat.ble m 1000000000) (nw h (rep z m) e _) none) none) none=_
 rw[jr2 k,jhm (f0e m),jhm h2,show Nat.ble (Nat.mul bytes m) 1000000000=true from jhm h1];rfl
def jwg (size:Nat) (v w:AV):Option AV:=jcq v none (fun b off len _ _ _=>jkc w len (fun m=>some (.s (.ptr b (Nat.add off (Nat.mul m size))))))
 (fun rows=>jkc w (jdj rows) (fun m=>ob (jd7 rows m) (fun row=>oif (Nat.beq (jdj row) size) (some (.s (.cp row))) none))) none
theorem jg3 {m n:Nat} {f:Nat->Option β} (hm:m<n):jkc (vi (m:Int)) n f=f m:=by
 show oif (Nat.ble (Nat.succ m) n) (f m) none=_
 rw[jhm (show Nat.succ m<=n from hm)];rfl
theorem jbf {size b off len mc sz m:Nat} {ex:Bool} (hm:m<len):jwg size (.s (.slice b off len mc ex sz)) (vi (m:Int))=some (.s (.ptr b (off+m*size))):=jg3 (f:=fun m=>some (AV.s (.ptr b (Nat.add off (Nat.mul m size))))) hm
theorem jce {size b off len mc sz:Nat} {ex:Bool} (hm:0<len):jwg size (.s (.slice b off len mc ex sz)) (vi 0)=some (.s (.ptr b off)):=by
 have:=jg3 (f:=fun m=>some (AV.s (.ptr b (Nat.add off (Nat.mul m size))))) hm
 refine this.trans ?_
 show some (AV.s (.ptr b (off+0*size)))=_
 rw[f2f,f1f]
theorem jzh {size m:Nat} (hr:rows[m]?=some row) (hl:row.length=size):jwg size (.s (.lst rows)) (vi (m:Int))=some (.s (.cp row)):=by
 have hm:m<rows.length:=by
  rcases f0h m rows.length with h | h
  .exact h
  .rw [f0m h] at hr;cases hr
 have:=jg3 (f:=fun m=>ob (jd7 rows m) (fun row=>oif (Nat.beq (jdj row) size) (some (AV.s (.cp row))) none)) (show m<jdj rows by rw[jbu];exact hm)
 refine this.trans ?_
 rw[jck,hr]
 show oif (Nat.beq (jdj row) size) _ none=_
 rw[jbu,hl,f1z];rfl
def qaj (n size:Nat) (v w:AV):Option AV:=jep v (fun b off=>jkc w n (fun m=>some (.s (.ptr b (Nat.add off (Nat.mul m size)))))) (fun cs=>jkc w n (fun m=>some (.s (.cp (jb9 (Nat.mul m size) cs)))))
theorem jcp {n size b off m:Nat} (hm:m<n):qaj n size (.s (.ptr b off)) (vi (m:Int))=some (.s (.ptr b (off+m*size))):=jg3 (f:=fun m=>some (AV.s (.ptr b (Nat.add off (Nat.mul m size))))) hm
theorem jev {n size m:Nat} {cs:List SV} (hm:m<n):qaj n size (.s (.cp cs)) (vi (m:Int))=some (.s (.cp (jb9 (m*size) cs))):=jg3 (f:=fun m=>some (AV.s (.cp (jb9 (Nat.mul m size) cs)))) hm
def qpd (h:Hp) (e:TypeId) (size bytes b n m:Nat) (x:Option AB) (new:List SV):R :=
 jh1 bytes (Nat.add n m) (ob x (fun x=>AB.casesOn (motive:=fun _=>R) x (fun cs ty =>
  ob (jb2 (Nat.mul n size) (jb9 0 cs)) (fun old=>(oif (Nat.ble h.lo b) (oif (Nat.beq ty e) (nw (h.put b none) (jgg old new) e (fun k h=>ok (.s (.slice k 0 (Nat.add n m) (Nat.add n m) false size)) h)) none) none))) (fun _ _=>none)))
def jin (h:Hp) (e:TypeId) (size bytes:Nat) (v w:AV):R:=jcq w (j7p v (ok v h)) (fun b' off' m _ _ _=>ob (rd h b' off' (Nat.mul m size)) (fun new=>j00 h e size bytes m v new))
 (fun rows=>ob (jq0 size rows) (fun new=>j00 h e size bytes (jdj rows) v new)) (j7p v (ok v h))
theorem jd0 {e:TypeId} {size m:Nat}:jin h e size bytes (.s .nilSlice) (.s (.slice b' o' m mc' ex' sz'))=ob (rdB (h.get b') o' (m*size)) (fun new=>Nat.casesOn (motive:=fun _=>R) m (some (.s .nilSlice,h)) (fun _=>jh1 bytes m (nw h new e (fun k h=>ok (.s (.slice k 0 m m false size)) h)))):=rfl
theorem jhn {n:Nat} {x:R} (h1:n*bytes<=1000000000) (h2:n<=1000000000):jh1 bytes n x=x:=by
 show oif (Nat.ble (Nat.mul n bytes) 1000000000) (oif (Nat.ble n 1000000000) x none) none=_
 rw[show Nat.ble (Nat.mul n bytes) 1000000000=true from jhm h1,jhm h2];rfl
theorem jl6 {e:TypeId} {size b n m:Nat} (hm:1<=m):jin h e size bytes (.s (.slice b 0 n n false size)) (.s (.slice b' o' m mc' ex' sz'))=ob (rdB (h.get b') o' (m*size)) (fun new=>qpd h e size bytes b n m (h.get b) new):=by
 show ob (rdB (h.get b') o' (m*size)) (fun new=>oif (Nat.beq size size) (oif (Nat.ble (Nat.add n m) n) _ (jh1 bytes (Nat.add n m) (jqz h e size b 0 n m false new))) none)=_
 congr 1
 funext new
 have e1:Nat.ble (Nat.add n m) n=false:=by
  cases e:Nat.ble (Nat.add n m) n with
  | false=>rfl
  | true=>rw[jt3] at e;have:n+m<=n:=e;omega
 rw[f1z]
 show oif (Nat.ble (Nat.add n m) n) _ _=_
 rw[e1]
 rfl
theorem qdl {e:TypeId} {size b n m:Nat} {cs new:List SV} (k:Ok h) (hc:cs.length=n*size) (h1:(n+m)*bytes<=1000000000) (h2:n+m<=1000000000) :
 qpd h e size bytes b n m (some (.arr cs e)) new=some (.s (.slice h.next 0 (n+m) (n+m) false size),(h.put b none).push (.arr (cs++new) e)):=by
 show jh1 bytes (n+m) (ob (jb2 (n*size) cs) (fun old=>oif (Nat.ble h.lo b) (oif (Nat.beq e e) (nw (h.put b none) (jgg old new) e _) none) none))=_
 rw[jhn h1 h2,(jax _).2 ⟨f2o hc.symm,rfl⟩,←hc,f2k]
 show oif (Nat.ble h.lo b) (oif (Nat.beq e e) (nw (h.put b none) (jgg cs new) e _) none) none=_
 rw[k.lo,f1z,jr2 (jao k),jc4,Hp.next_put]
 rfl
def qp0 (v:AV):Option (Bool×List SV):=AV.casesOn (motive:=fun _=>Option (Bool×List SV)) v (fun s=>some (false,[s])) (fun l=>some (true,l)) (fun _=>none) none none
theorem jla:jfu fr h []=some []:=rfl
theorem jew {r:IR} {l:List IR}:jfu fr h (r::l)=ob (jl3 fr h r) (fun v=>ob (jfu fr h l) (fun x=>some (v::x))):=rfl
theorem jlb:jb6 (.mk fr h) []=some (.tup [],h):=rfl
theorem j1u {r:IR}:jb6 (.mk fr h) [r]=ob (jl3 fr h r) (fun p=>ob (jfr p.1 p.2) (fun v=>some (v,h))):=by
 show ob (ob (jl3 fr h r) (fun v=>ob (some []) (fun x=>some (v::x)))) (fun vs=>List.casesOn (motive:=fun _=>R) vs (ok (.tup []) h) (fun p r=>List.casesOn (motive:=fun _=>R) r (ob (jfr p.1 p.2) (fun v=>ok v h)) (fun _ _=>ok (.tup vs) h)))=_
 cases jl3 fr h r<;>rfl
theorem j1v {r r':IR} {l:List IR}:jb6 (.mk fr h) (r::r'::l)=ob (jfu fr h (r::r'::l)) (fun vs=>some (.tup vs,h)):=by
 show ob (jfu fr h (r::r'::l)) (fun vs=>List.casesOn (motive:=fun _=>R) vs (ok (.tup []) h) (fun p r=>List.casesOn (motive:=fun _=>R) r (ob (jfr p.1 p.2) (fun v=>ok v h)) (fun _ _=>ok (.tup vs) h)))=_
 rw[jew,jew]
 cases jl3 fr h r with
 | none=>rfl
 | some a=>cases jl3 fr h r' with
  | none=>rfl
  | some b=>cases jfu fr h l<;>rfl
theorem qdm {v:AV}:ok v h=some (v,h):=rfl
theorem jxi {es:List Ent} {hid:List (Nat×Nat)}:sel es [] hid=some hid:=rfl
theorem jr3 {es:List Ent} {hid:List (Nat×Nat)}:sel es (j::js) hid=ob (jd7 es j) (fun e=>ob (sel es js hid) (fun l=>Ent.casesOn (motive:=fun _=>Option (List (Nat×Nat))) e (fun iv _=>some (iv++l)))):=by
 show ob (jd7 es j) (fun e=>ob (sel es js hid) (fun l=>Ent.casesOn (motive:=fun _=>Option (List (Nat×Nat))) e (fun iv _=>some (jgg iv l))))=_
 simp only[jc4]
def fpV:AV->List Nat
 | .s (.ptr b _)=>[b]
 | _=>[]
theorem jxj {b:Nat}:fpV (.s (.ptr b o))=[b]:=rfl
theorem j4c {cs:List SV}:fpV (.s (.cp cs))=[]:=rfl
theorem ju1 {es:List Ent} {dst:Option Nat} {n:Nat} {x:Od} {l:List (IOper×Option (List Nat))}:WD F ((.mk dst (.a (.load n agg x)) none,some js)::l) st es fr h Q=obP (sel es js h.hid) (fun hid'=>obP (ev st fr x) (fun p=>obP (jl5 (h.hide h.next hid') n agg p) (fun v=>WD F l (v::st) (.mk [] (some (fpV p))::es) (jcn fr dst v) h Q))):=by
 cases h with
 | mk k t lo hid =>
 rw[jw4 (x:=ob (sel es js hid) (fun hid'=>ob (ev st fr x) (fun p=>ob (jl5 (.mk k t k hid') n agg p) (fun v=>some (DR.mk v (.mk k t lo hid) (.mk [] (some (fpV p)))))))) (fun cl=>?_)]
 .refine propext ⟨fun⟨p,h1,h2⟩=>?_,fun⟨hid',h0,q,h1,v,h2,h3⟩=>⟨.mk v (.mk k t lo hid) (.mk [] (some (fpV q))),jaa.2 ⟨hid',h0,jaa.2 ⟨q,h1,jaa.2 ⟨v,h2,rfl⟩⟩⟩,h3⟩⟩
  obtain⟨hid',h3,h4⟩:=jaa.1 h1
  obtain⟨q,h5,h6⟩:=jaa.1 h4
  obtain⟨v,h7,h8⟩:=jaa.1 h6
  cases h8
  exact⟨hid',h3,q,h5,v,h7,h2⟩
 .show jln cl st fr es (.mk k t lo hid) (.a (.load n agg x)) js=_
  show ob (sel es js hid) (fun hid'=>Cls.casesOn (motive:=fun _=>Option DR) (jq1 (ob (ev st fr x) (fun v=>jep v (fun b _=>some (Cls.load b)) (fun _=>some .quiet))) (fun c=>c))
   (jj8 cl st fr k t lo k hid hid' (.a (.load n agg x)) (fun n'=>.mk [(k,n')] (some [])))
   (fun x'=>jj8 cl st fr k t lo k hid hid' (.a (.load n agg x)) (fun _=>.mk [] (some [x'])))
   (fun b=>oif (jfa es js b) (oif (Nat.ble lo b) (ob (Hp.get (.mk k t lo hid') b) (fun _=>jj8 cl st fr k t lo lo hid hid' (.a (.load n agg x)) (fun n'=>.mk [(b,Nat.succ b),(k,n')] none))) none) none)
   (jj8 cl st fr k t lo k hid hid' (.a (.load n agg x)) (fun _=>.mk [] (some [])))
   (jj8 cl st fr k t lo k hid hid' (.a (.load n agg x)) (fun n'=>.mk [(k,n')] none)))=_
  congr 1
  funext hid'
  have key:∀ e:Nat->Ent,jj8 cl st fr k t lo k hid hid' (.a (.load n agg x)) e=ob (ev st fr x) (fun p=>ob (jl5 (.mk k t k hid') n agg p) (fun v=>some (DR.mk v (.mk k t lo hid) (e k)))):=fun e=>by
   show ob (aop cl st fr (.mk k t k hid') (.load n agg x)) _=_
   rw[jh8 (show AO.calls (.load n agg x)=false from rfl),jzg]
   cases ev st fr x with
   | none=>rfl
   | some p =>
    show ob (ob (jl5 (.mk k t k hid') n agg p) _) _=ob (jl5 (.mk k t k hid') n agg p) _
    cases jl5 (.mk k t k hid') n agg p<;>rfl
  have k1:=key (fun n'=>.mk [(k,n')] none)
  have k3:=key (fun _=>.mk [] (some []))
  have k2:=fun b=>key (fun _=>.mk [] (some [b]))
  cases hx:ev st fr x with
  | none =>
   rw[hx] at k1
   exact k1
  | some p =>
   rw[hx] at k1 k3
   simp only[hx] at k2
   cases p with
   | s p =>
    cases p with
    | ptr b o=>exact k2 b
    | cp cs=>exact k3
    | _=>exact k1
   | _=>exact k1
theorem jpr {es:List Ent} {dst:Option Nat} {e:TypeId} {size:Nat} {len:Nat} {ps:List (Nat×Nat×Od)} {l:List (IOper×Option (List Nat))}:WD F ((.mk dst (.a (.bslice e size z len ps)) none,some js)::l) st es fr h Q=obP (sel es js h.hid) (fun hid'=>obP (fill st fr ps z) (fun cs=>jan hid' h.next=false/\WD F l (.s (.slice h.next 0 len len true size)::st) (.mk [(h.next,h.next+1)] (some [])::es) (jcn fr dst (.s (.slice h.next 0 len len true size))) (h.push (.arr cs e)) Q)):=by
 cases h with
 | mk k t lo hid =>
 rw[jw4 (x:=ob (sel es js hid) (fun hid'=>ob (fill st fr ps z) (fun cs=>oif (jan hid' k) none (some (DR.mk (.s (.slice k 0 len len true size)) ((Hp.mk k t lo hid).push (.arr cs e)) (.mk [(k,k+1)] (some []))))))) (fun cl=>?_)]
 .refine propext ⟨fun⟨p,h1,h2⟩=>?_,fun⟨hid',h0,cs,h1,h2,h3⟩=>⟨DR.mk (.s (.slice k 0 len len true size)) ((Hp.mk k t lo hid).push (.arr cs e)) (.mk [(k,k+1)] (some [])),jaa.2 ⟨hid',h0,jaa.2 ⟨cs,h1,?_⟩⟩,h3⟩⟩
  .obtain ⟨hid',h3,h4⟩:=jaa.1 h1
   obtain⟨cs,h5,h6⟩:=jaa.1 h4
   rw[jat] at h6
   split at h6
   .cases h6
   .rename_i h7
    cases h6
    exact⟨hid',h3,cs,h5,Bool.eq_false_iff.2 h7,h2⟩
  .have h2':jan hid' k=false:=h2
   rw[h2'];rfl
 .show jln cl st fr es (.mk k t lo hid) (.a (.bslice e size z len ps)) js=_
  show ob (sel es js hid) (fun hid'=>ob (ob (fill st fr ps z) (fun cs=>oif (jan hid' k) none (ok (.s (.slice k 0 len len true size)) (Hp.mk (Nat.succ k) (t.put (Nat.succ k) k (some (.arr cs e))) k hid')))) (fun p=>Hp.casesOn (motive:=fun _=>Option DR) p.2 (fun n' t' _ _=>some (.mk p.1 (.mk n' t' lo hid) (.mk [(k,n')] (some []))))))=_
  congr 1
  funext hid'
  cases fill st fr ps z with
  | none=>rfl
  | some cs =>
   show ob (oif (jan hid' k) none _) _=oif (jan hid' k) none _
   cases jan hid' k<;>rfl
end
section
variable {F:Fns} {s:St} {st fr:List AV} {h h':Hp} {Q:Ex->St->Prop} {l:List IOper} {dst:Option Nat} {v w:AV} {m:List (IOper×Option (List Nat))} {es:List Ent}
def zpO (F:Fns) (x:Option AV) (dst:Option Nat) (l:List IOper) (st fr:List AV) (h:Hp) (Q:Ex->St->Prop):Prop:=obP x (fun v=>WO F l (v::st) (jcn fr dst v) h Q)
theorem jr4:zpO F (some v) dst l st fr h Q=WO F l (v::st) (jcn fr dst v) h Q:=jby
def zmO (F:Fns) (x:R) (dst:Option Nat) (l:List IOper) (st fr:List AV) (Q:Ex->St->Prop):Prop:=obP x (fun p=>WO F l (p.1::st) (jcn fr dst p.1) p.2 Q)
theorem jr5:zmO F (some (v,h)) dst l st fr Q=WO F l (v::st) (jcn fr dst v) h Q:=jby
def qdn (F:Fns) (dst:Option Nat) (l:List IOper) (st fr:List AV) (Q:Ex->St->Prop) (v:AV) (h:Hp):Prop:=WO F l (v::st) (jcn fr dst v) h Q
theorem jr6:qdn F dst l st fr Q v h=WO F l (v::st) (jcn fr dst v) h Q:=rfl
def zkO (F:Fns) (x:Option (List AV)) (f:FuncId) (dst:Option Nat) (l:List IOper) (st fr:List AV) (h:Hp) (Q:Ex->St->Prop):Prop:=obP x (fun vs=>WC F f vs h (qdn F dst l st fr Q))
theorem jr7 {f:FuncId}:zkO F (some vs) f dst l st fr h Q=WC F f vs h (qdn F dst l st fr Q):=jby
def zgO (F:Fns) (x:Option AV) (t:Bool) (dst:Option Nat) (op:IOp) (l:List IOper) (st fr:List AV) (h:Hp) (Q:Ex->St->Prop):Prop:=gP x t (WO F (.mk dst op none::l) st fr h Q) (WO F l (.undef::st) (jcn fr dst .undef) h Q)
theorem jr8 {b:Bool} {op:IOp}:zgO F (some (.s (.bool b))) t dst op l st fr h Q=if b=t then WO F (.mk dst op none::l) st fr h Q else WO F l (.undef::st) (jcn fr dst .undef) h Q:=j3w
theorem joj {op:IOp}:zgO F (some .undef) t dst op l st fr h Q=WO F l (.undef::st) (jcn fr dst .undef) h Q:=jzf
def zcO (F:Fns) (x:Option AV) (a b:IC) (fr:List AV) (h:Hp) (Q:Ex->St->Prop):Prop:=qnd x (W F a (.mk fr h) Q) (W F b (.mk fr h) Q)
theorem jr9 {b:Bool} {x y:IC}:zcO F (some (.s (.bool b))) x y fr h Q=if b=true then W F x (.mk fr h) Q else W F y (.mk fr h) Q:=j3r
theorem jxk {c:Od} {x y:IC}:W F (.cond c x y) (.mk fr h) Q=zcO F (ev [] fr c) x y fr h Q:=qju
theorem jxl {o:PO}:WO F (.mk dst (.p o) none::l) st fr h Q=zpO F (pop st fr o) dst l st fr h Q:=qc9
theorem jxm {f:FuncId} {as:List Od}:WO F (.mk dst (.a (.call f as)) none::l) st fr h Q=zkO F (evs st fr as) f dst l st fr h Q:=qda
theorem jsa {op:IOp}:WO F (.mk dst op (some (i,t))::l) st fr h Q=zgO F (jd7 st i) t dst op l st fr h Q:=j8o
theorem jzi {x:Od} {as:List Od} {f:FuncId} {caps:List (Nat×Nat)} (hx:ev st fr x=some (.s (.func f caps))):WO F (.mk dst (.a (.callv x as)) none::l) st fr h Q=zkO F (ob (evs st fr as) (fun vs=>some (vs++jfs caps))) f dst l st fr h Q:=by
 rw[j8n]
 refine propext ⟨fun⟨g,cs,h1,vs,h2,h3⟩=>?_,fun⟨vs,h1,h2⟩=>?_⟩
 .rw [hx] at h1;cases h1
  exact⟨_,jaa.2 ⟨vs,h2,rfl⟩,h3⟩
 .obtain ⟨us,h3,h4⟩:=jaa.1 h1
  cases h4
  exact⟨f,caps,hx,us,h3,h2⟩
def zpD (F:Fns) (x:Option AV) (e:Ent) (dst:Option Nat) (m:List (IOper×Option (List Nat))) (st:List AV) (es:List Ent) (fr:List AV) (h:Hp) (Q:Ex->St->Prop):Prop:=obP x (fun v=>WD F m (v::st) (e::es) (jcn fr dst v) h Q)
theorem jsb {e:Ent}:zpD F (some v) e dst m st es fr h Q=WD F m (v::st) (e::es) (jcn fr dst v) h Q:=jby
def zmD (F:Fns) (x:R) (dst:Option Nat) (m:List (IOper×Option (List Nat))) (st:List AV) (es:List Ent) (fr:List AV) (Q:Ex->St->Prop):Prop:=obP x (fun p=>WD F m (p.1::st) (.mk [] (some [])::es) (jcn fr dst p.1) p.2 Q)
theorem jsc:zmD F (some (v,h)) dst m st es fr Q=WD F m (v::st) (.mk [] (some [])::es) (jcn fr dst v) h Q:=jby
def qdo (F:Fns) (dst:Option Nat) (m:List (IOper×Option (List Nat))) (st:List AV) (es:List Ent) (fr:List AV) (Q:Ex->St->Prop) (v:AV) (h:Hp):Prop:=WD F m (v::st) (.mk [] (some [])::es) (jcn fr dst v) h Q
theorem jsd:qdo F dst m st es fr Q v h=WD F m (v::st) (.mk [] (some [])::es) (jcn fr dst v) h Q:=rfl
def zkD (F:Fns) (x:Option (List AV)) (f:FuncId) (dst:Option Nat) (m:List (IOper×Option (List Nat))) (st:List AV) (es:List Ent) (fr:List AV) (h:Hp) (Q:Ex->St->Prop):Prop:=obP x (fun vs=>WC F f vs h (qdo F dst m st es fr Q))
theorem jse {f:FuncId}:zkD F (some vs) f dst m st es fr h Q=WC F f vs h (qdo F dst m st es fr Q):=jby
def zgD (F:Fns) (x:Option AV) (t:Bool) (dst:Option Nat) (op:IOp) (o:Option (List Nat)) (m:List (IOper×Option (List Nat))) (st:List AV) (es:List Ent) (fr:List AV) (h:Hp) (Q:Ex->St->Prop):Prop:=gP x t (WD F ((.mk dst op none,o)::m) st es fr h Q) (WD F m (.undef::st) (.mk [] (some [])::es) (jcn fr dst .undef) h Q)
theorem jsf {b:Bool} {op:IOp} {o:Option (List Nat)}:zgD F (some (.s (.bool b))) t dst op o m st es fr h Q=if b=t then WD F ((.mk dst op none,o)::m) st es fr h Q else WD F m (.undef::st) (.mk [] (some [])::es) (jcn fr dst .undef) h Q:=j3w
theorem jok {op:IOp} {o:Option (List Nat)}:zgD F (some .undef) t dst op o m st es fr h Q=WD F m (.undef::st) (.mk [] (some [])::es) (jcn fr dst .undef) h Q:=jzf
theorem jxn {o:PO}:WD F ((.mk dst (.p o) none,none)::m) st es fr h Q=zpD F (pop st fr o) (.mk [] (some [])) dst m st es fr h Q:=qdb
theorem jxo {f:FuncId} {as:List Od}:WD F ((.mk dst (.a (.call f as)) none,none)::m) st es fr h Q=zkD F (evs st fr as) f dst m st es fr h Q:=qdc
theorem jsg {op:IOp} {o:Option (List Nat)}:WD F ((.mk dst op (some (i,t)),o)::m) st es fr h Q=zgD F (jd7 st i) t dst op o m st es fr h Q:=j8p
def qpe (F:Fns) (x:Option (List (Nat×Nat))) (o:Option AV) (dst:Option Nat) (m:List (IOper×Option (List Nat))) (st:List AV) (es:List Ent) (fr:List AV) (h:Hp) (Q:Ex->St->Prop):Prop:=obP x (fun _=>zpD F o (.mk [(h.next,h.next)] (some [])) dst m st es fr h Q)
theorem jol {x:List (Nat×Nat)} {o:Option AV}:qpe F (some x) o dst m st es fr h Q=zpD F o (.mk [(h.next,h.next)] (some [])) dst m st es fr h Q:=jby
theorem jg4 {o:PO}:WD F ((.mk dst (.p o) none,some js)::m) st es fr h Q=qpe F (sel es js h.hid) (pop st fr o) dst m st es fr h Q:=juz
def qnj (F:Fns) (x:Option (List (Nat×Nat))) (n:Nat) (agg:Bool) (p:Option AV) (dst:Option Nat) (m:List (IOper×Option (List Nat))) (st:List AV) (es:List Ent) (fr:List AV) (h:Hp) (Q:Ex->St->Prop):Prop:=obP x (fun hid'=>obP p (fun p=>zpD F (jl5 (h.hide h.next hid') n agg p) (.mk [] (some (fpV p))) dst m st es fr h Q))
theorem jom {x:List (Nat×Nat)} {n:Nat}:qnj F (some x) n agg (some w) dst m st es fr h Q=zpD F (jl5 (h.hide h.next x) n agg w) (.mk [] (some (fpV w))) dst m st es fr h Q:=by
 unfold qnj;rw[jby,jby]
theorem jg5 {n:Nat} {x:Od}:WD F ((.mk dst (.a (.load n agg x)) none,some js)::m) st es fr h Q=qnj F (sel es js h.hid) n agg (ev st fr x) dst m st es fr h Q:=ju1
def qmj (F:Fns) (x:Option (List (Nat×Nat))) (cs:Option (List SV)) (e:TypeId) (size len:Nat) (dst:Option Nat) (m:List (IOper×Option (List Nat))) (st:List AV) (es:List Ent) (fr:List AV) (h:Hp) (Q:Ex->St->Prop):Prop:=obP x (fun hid'=>obP cs (fun cs=>jan hid' h.next=false/\WD F m (.s (.slice h.next 0 len len true size)::st) (.mk [(h.next,h.next+1)] (some [])::es) (jcn fr dst (.s (.slice h.next 0 len len true size))) (h.push (.arr cs e)) Q))
theorem jjf {x:List (Nat×Nat)} {cs:List SV} {e:TypeId} {size len:Nat} (hx:jan x h.next=false):qmj F (some x) (some cs) e size len dst m st es fr h Q=WD F m (.s (.slice h.next 0 len len true size)::st) (.mk [(h.next,h.next+1)] (some [])::es) (jcn fr dst (.s (.slice h.next 0 len len true size))) (h.push (.arr cs e)) Q:=by
 unfold qmj;rw[jby,jby];exact propext ⟨fun h=>h.2,fun h=>⟨hx,h⟩⟩
theorem jxp {cs:List SV} {e:TypeId} {size len:Nat}:qmj F (some []) (some cs) e size len dst m st es fr h Q=WD F m (.s (.slice h.next 0 len len true size)::st) (.mk [(h.next,h.next+1)] (some [])::es) (jcn fr dst (.s (.slice h.next 0 len len true size))) (h.push (.arr cs e)) Q:=jjf rfl
theorem jfo {e:TypeId} {size:Nat} {len:Nat} {ps:List (Nat×Nat×Od)}:WD F ((.mk dst (.a (.bslice e size z len ps)) none,some js)::m) st es fr h Q=qmj F (sel es js h.hid) (fill st fr ps z) e size len dst m st es fr h Q:=jpr
def qp1 (F:Fns) (x:Option (List (Nat×Nat))) (u:AV) (dst:Option Nat) (m:List (IOper×Option (List Nat))) (st:List AV) (es:List Ent) (fr:List AV) (h:Hp) (Q:Ex->St->Prop):Prop:=obP x (fun _=>WD F m (u::st) (.mk [(h.next,h.next)] none::es) (jcn fr dst u) h Q)
theorem jon {x:List (Nat×Nat)} {u:AV}:qp1 F (some x) u dst m st es fr h Q=WD F m (u::st) (.mk [(h.next,h.next)] none::es) (jcn fr dst u) h Q:=jby
theorem j4d {e:TypeId}:WO F (.mk dst (.a (.new e z)) none::l) st fr h Q=zmO F (je3 st fr h (.new e z)) dst l st fr Q:=jl1 rfl
theorem j4e {e:TypeId}:WD F ((.mk dst (.a (.new e z)) none,none)::m) st es fr h Q=zmD F (je3 st fr h (.new e z)) dst m st es fr Q:=jl2 rfl
theorem j4f {e:TypeId} {x:Od}:WO F (.mk dst (.a (.box e x)) none::l) st fr h Q=zmO F (je3 st fr h (.box e x)) dst l st fr Q:=jl1 rfl
theorem j4g {e:TypeId} {x:Od}:WD F ((.mk dst (.a (.box e x)) none,none)::m) st es fr h Q=zmD F (je3 st fr h (.box e x)) dst m st es fr Q:=jl2 rfl
theorem joo {e:TypeId} {size:Nat} {len:Nat} {ps:List (Nat×Nat×Od)}:WO F (.mk dst (.a (.bslice e size z len ps)) none::l) st fr h Q=zmO F (je3 st fr h (.bslice e size z len ps)) dst l st fr Q:=jl1 rfl
theorem jop {e:TypeId} {size:Nat} {len:Nat} {ps:List (Nat×Nat×Od)}:WD F ((.mk dst (.a (.bslice e size z len ps)) none,none)::m) st es fr h Q=zmD F (je3 st fr h (.bslice e size z len ps)) dst m st es fr Q:=jl2 rfl
theorem jlc {e:TypeId} {size:Nat} {x y:Od}:WO F (.mk dst (.a (.mkslice e size bytes z x y)) none::l) st fr h Q=zmO F (je3 st fr h (.mkslice e size bytes z x y)) dst l st fr Q:=jl1 rfl
theorem jld {e:TypeId} {size:Nat} {x y:Od}:WD F ((.mk dst (.a (.mkslice e size bytes z x y)) none,none)::m) st es fr h Q=zmD F (je3 st fr h (.mkslice e size bytes z x y)) dst m st es fr Q:=jl2 rfl
theorem jxq {n:Nat} {x:Od}:WO F (.mk dst (.a (.load n agg x)) none::l) st fr h Q=zmO F (je3 st fr h (.load n agg x)) dst l st fr Q:=jl1 rfl
theorem jxr {n:Nat} {x:Od}:WD F ((.mk dst (.a (.load n agg x)) none,none)::m) st es fr h Q=zmD F (je3 st fr h (.load n agg x)) dst m st es fr Q:=jl2 rfl
theorem jsh {n:Nat} {x y:Od}:WO F (.mk dst (.a (.store n x y)) none::l) st fr h Q=zmO F (je3 st fr h (.store n x y)) dst l st fr Q:=jl1 rfl
theorem jsi {n:Nat} {x y:Od}:WD F ((.mk dst (.a (.store n x y)) none,none)::m) st es fr h Q=zmD F (je3 st fr h (.store n x y)) dst m st es fr Q:=jl2 rfl
theorem j4h {e:TypeId} {size:Nat} {x y:Od}:WO F (.mk dst (.a (.app e size bytes x y)) none::l) st fr h Q=zmO F (je3 st fr h (.app e size bytes x y)) dst l st fr Q:=jl1 rfl
theorem j4i {e:TypeId} {size:Nat} {x y:Od}:WD F ((.mk dst (.a (.app e size bytes x y)) none,none)::m) st es fr h Q=zmD F (je3 st fr h (.app e size bytes x y)) dst m st es fr Q:=jl2 rfl
theorem jxs {size:Nat} {x y:Od}:WO F (.mk dst (.a (.copy size x y)) none::l) st fr h Q=zmO F (je3 st fr h (.copy size x y)) dst l st fr Q:=jl1 rfl
theorem jxt {size:Nat} {x y:Od}:WD F ((.mk dst (.a (.copy size x y)) none,none)::m) st es fr h Q=zmD F (je3 st fr h (.copy size x y)) dst m st es fr Q:=jl2 rfl
def qpf (o:BO) (x y:Option AV):Option AV:=ob x (fun a=>ob y (fun b=>svc none a (fun a=>svc none b (fun b=>jd8 o a b))))
theorem j4j {o:BO} {x y:Od}:pop st fr (.bin o x y)=qpf o (ev st fr x) (ev st fr y):=rfl
theorem joq {o:BO} {a b:SV}:qpf o (some (.s a)) (some (.s b))=jd8 o a b:=rfl
def qnk (off:Nat) (x:Option AV):Option AV:=ob x (fun v=>jep v (fun b o=>some (.s (.ptr b (o+off)))) (fun cs=>some (.s (.cp (jb9 off cs)))))
theorem j4k {off:Nat} {x:Od}:pop st fr (.fld off x)=qnk off (ev st fr x):=rfl
theorem jsj {off b:Nat}:qnk off (some (.s (.ptr b o)))=some (.s (.ptr b (o+off))):=rfl
theorem jxu {off:Nat} {cs:List SV}:qnk off (some (.s (.cp cs)))=some (.s (.cp (jb9 off cs))):=rfl
def qdp (x:Option AV):Option AV:=ob x (fun v=>jep v (fun b o=>some (.s (.ptr b o))) (fun cs=>some (.s (.cp cs))))
theorem jxv {x:Od}:pop st fr (.nchk x)=qdp (ev st fr x):=rfl
theorem jor {b:Nat}:qdp (some (.s (.ptr b o)))=some (.s (.ptr b o)):=rfl
theorem jsk {cs:List SV}:qdp (some (.s (.cp cs)))=some (.s (.cp cs)):=rfl
def qpg (x:Option AV):Option AV:=ob x jxb
theorem j4l {x:Od}:pop st fr (.len x)=qpg (ev st fr x):=rfl
theorem jos:qpg (some v)=jxb v:=rfl
def qph (size:Nat) (x y:Option AV):Option AV:=ob x (fun v=>ob y (fun w=>jwg size v w))
theorem j4m {size:Nat} {x i:Od}:pop st fr (.ixs size x i)=qph size (ev st fr x) (ev st fr i):=rfl
theorem jot {size:Nat}:qph size (some v) (some w)=jwg size v w:=rfl
def qpi (n size:Nat) (x y:Option AV):Option AV:=ob x (fun v=>ob y (fun w=>qaj n size v w))
theorem j4n {n size:Nat} {x i:Od}:pop st fr (.ixa n size x i)=qpi n size (ev st fr x) (ev st fr i):=rfl
theorem jou {n size:Nat}:qpi n size (some v) (some w)=qaj n size v w:=rfl
def qjy (x:Option AV) (a b:Od) (st fr:List AV):Option AV:=ob x (fun v=>jh0 v (fun t=>ev st fr (oif t a b)))
theorem jxw {c a b:Od}:pop st fr (.pick c a b)=qjy (ev st fr c) a b st fr:=rfl
theorem jle {a b:Od}:qjy (some (.s (.bool t))) a b st fr=if t=true then ev st fr a else ev st fr b:=by cases t<;>rfl
def qpj (i:Nat) (x:Option AV):Option AV:=ob x (fun v=>AV.casesOn (motive:=fun _=>Option AV) v (fun _=>none) (fun _=>none) (fun l=>ob (jd7 l i) (fun p=>jfr p.1 p.2)) none none)
theorem j4o {x:Od}:pop st fr (.ext i x)=qpj i (ev st fr x):=rfl
def mk1 (p:Option (Bool×List SV)):Option AV:=ob p (fun p=>jfr p.1 p.2)
theorem jsl {a:Bool} {l:List SV}:mk1 (some (a,l))=jfr a l:=rfl
theorem jsm {l:List (Bool×List SV)}:qpj i (some (.tup l))=mk1 (jd7 l i):=rfl
def ldR (h:Hp) (agg:Bool) (cs:Option (List SV)):R:=ob cs (fun cs=>ob (jfr agg cs) (fun v=>ok v h))
theorem qdq {cs:List SV}:ldR h true (some cs)=some (.agg cs,h):=rfl
theorem qdr {a:SV}:ldR h false (some [a])=some (.s a,h):=rfl
def qds (h:Hp) (n:Nat) (agg:Bool) (x:Option AV):R:=ob x (fun v=>ob (jl5 h n agg v) (fun v=>ok v h))
theorem jxx {n:Nat} {x:Od}:je3 st fr h (.load n agg x)=qds h n agg (ev st fr x):=jzg
theorem jov {n b:Nat}:qds h n agg (some (.s (.ptr b o)))=ldR h agg (rdB (h.get b) o n):=by
 show ob (ob (rdB (h.get b) o n) _) _=_
 rw[qdi];rfl
theorem jsn {n:Nat} {cs:List SV}:qds h n agg (some (.s (.cp cs)))=ldR h agg (jb2 n cs):=by
 show ob (ob (jb2 n cs) _) _=_
 rw[qdi];rfl
def jhx (h:Hp) (n:Nat) (x y:Option AV):R:=ob x (fun p=>ob y (fun v=>j4b h n p v))
theorem jso {n:Nat} {x v:Od}:je3 st fr h (.store n x v)=jhx h n (ev st fr x) (ev st fr v):=rfl
def stR (h:Option Hp):R:=ob h (fun h=>ok .undef h)
theorem jsp:stR (some h)=some (.undef,h):=rfl
theorem j8w {b:Nat} {x:SV} (k:Ok h):jhx h 1 (some (.s (.ptr b o))) (some (.s x))=stR (wrB h b (h.get b) o [x]):=j8v k
theorem j1w {n b:Nat} {cs:List SV} (k:Ok h) (hn:cs.length=n):jhx h n (some (.s (.ptr b o))) (some (.agg cs))=stR (wrB h b (h.get b) o cs):=j1s k hn
def qpk (h:Hp) (e:TypeId) (size bytes:Nat) (x y:Option AV):R:=ob x (fun v=>ob y (fun w=>jin h e size bytes v w))
theorem j4p {e:TypeId} {size:Nat} {x y:Od}:je3 st fr h (.app e size bytes x y)=qpk h e size bytes (ev st fr x) (ev st fr y):=rfl
theorem jow {e:TypeId} {size:Nat}:qpk h e size bytes (some v) (some w)=jin h e size bytes v w:=rfl
def bsO (h:Hp) (e:TypeId) (size len:Nat) (x:Option (List SV)):R:=ob x (fun cs=>some (.s (.slice h.next 0 len len true size),h.push (.arr cs e)))
theorem jsq {e:TypeId} {size len:Nat} {cs:List SV}:bsO h e size len (some cs)=some (.s (.slice h.next 0 len len true size),h.push (.arr cs e)):=rfl
theorem j4q {e:TypeId} {size:Nat} {len:Nat} {ps:List (Nat×Nat×Od)} (k:Ok h):je3 st fr h (.bslice e size z len ps)=bsO h e size len (fill st fr ps z):=j1t k
def qmk (h:Hp) (e:TypeId) (x:Option AV):R:=ob x (fun v=>cel v (fun cs=>some (.s (.ptr h.next 0),h.push (.arr cs e))))
theorem qjz {e:TypeId} {x:Od} (k:Ok h):je3 st fr h (.box e x)=qmk h e (ev st fr x):=qdk k
theorem j4r {e:TypeId} {x:SV}:qmk h e (some (.s x))=some (.s (.ptr h.next 0),h.push (.arr [x] e)):=rfl
theorem jsr {e:TypeId} {cs:List SV}:qmk h e (some (.agg cs))=some (.s (.ptr h.next 0),h.push (.arr cs e)):=rfl
def qpl (h:Hp) (e:TypeId) (size bytes:Nat) (z:List SV) (x y:Option AV):R:=ob x (fun v=>ob y (fun u=>qjx h e size bytes z v u))
theorem jlf {e:TypeId} {size:Nat} {l c:Od}:je3 st fr h (.mkslice e size bytes z l c)=qpl h e size bytes z (ev st fr l) (ev st fr c):=rfl
theorem jox {e:TypeId} {size:Nat}:qpl h e size bytes z (some v) (some w)=qjx h e size bytes z v w:=rfl
def re1 (h:Hp) (x:Option (Bool×List SV)):R:=ob x (fun p=>ob (jfr p.1 p.2) (fun v=>some (v,h)))
theorem j4s {r:IR}:jb6 (.mk fr h) [r]=re1 h (jl3 fr h r):=j1u
theorem qdt {a:SV}:re1 h (some (false,[a]))=some (.s a,h):=rfl
theorem qdu {l:List SV}:re1 h (some (true,l))=some (.agg l,h):=rfl
def reT (g:Option AV):Option (Bool×List SV):=ob g qp0
theorem j4t:jl3 fr h (.tmp g)=reT (jd7 fr g):=rfl
theorem qdv {x:SV}:reT (some (.s x))=some (false,[x]):=rfl
theorem jxy {x:List SV}:reT (some (.agg x))=some (true,x):=rfl
def reC (h:Hp) (n:Nat) (agg:Bool) (g:Option AV):Option (Bool×List SV):=ob g (fun v=>jt2 v (fun b off=>ob (rdB (h.get b) off n) (fun cs=>some (agg,cs))))
theorem jxz {n:Nat}:jl3 fr h (.cell g n agg)=reC h n agg (jd7 fr g):=rfl
def reP (agg:Bool) (x:Option (List SV)):Option (Bool×List SV):=ob x (fun cs=>some (agg,cs))
theorem jss {cs:List SV}:reP agg (some cs)=some (agg,cs):=rfl
theorem jx0 {n b:Nat}:reC h n agg (some (.s (.ptr b o)))=reP agg (rdB (h.get b) o n):=rfl
def qnl (x:R) (Q:AV->Hp->Prop):Prop:=obP x (fun p=>Q p.1 p.2)
theorem joy {Q:AV->Hp->Prop}:qnl (some (v,h)) Q=Q v h:=jby
theorem jie {res:List IR} {Q:AV->Hp->Prop}:qag res Q .normal s=qnl (jb6 s res) Q:=rfl
theorem jst {res:List IR} {Q:AV->Hp->Prop}:qag res Q .ret s=qnl (jb6 s res) Q:=rfl
def re2 (h:Hp) (x:Option (List (Bool×List SV))):R:=ob x (fun vs=>some (.tup vs,h))
theorem jsu {l:List (Bool×List SV)}:re2 h (some l)=some (.tup l,h):=rfl
theorem j4u {r r':IR} {k:List IR}:jb6 (.mk fr h) (r::r'::k)=re2 h (jfu fr h (r::r'::k)):=j1v
theorem jcf {size b off len mc sz:Nat} {ex:Bool} (hm:1<len):jwg size (.s (.slice b off len mc ex sz)) (vi 1)=some (.s (.ptr b (off+size))):=by
 have:=jbf (size:=size) (b:=b) (off:=off) (len:=len) (mc:=mc) (sz:=sz) (ex:=ex) hm
 rw[Nat.one_mul] at this;exact this
theorem jdp {n size b off:Nat} (hm:0<n):qaj n size (.s (.ptr b off)) (vi 0)=some (.s (.ptr b off)):=by
 have:=jcp (n:=n) (size:=size) (b:=b) (off:=off) hm
 rw[f2f,f1f] at this;exact this
theorem jdq {n size b off:Nat} (hm:1<n):qaj n size (.s (.ptr b off)) (vi 1)=some (.s (.ptr b (off+size))):=by
 have:=jcp (n:=n) (size:=size) (b:=b) (off:=off) hm
 rw[Nat.one_mul] at this;exact this
theorem jef {n size:Nat} {cs:List SV} (hm:0<n):qaj n size (.s (.cp cs)) (vi 0)=some (.s (.cp cs)):=by
 have:=jev (n:=n) (size:=size) (cs:=cs) hm
 rw[f2f] at this;exact this
theorem jeg {n size:Nat} {cs:List SV} (hm:1<n):qaj n size (.s (.cp cs)) (vi 1)=some (.s (.cp (jb9 size cs))):=by
 have:=jev (n:=n) (size:=size) (cs:=cs) hm
 rw[Nat.one_mul] at this;exact this
theorem jsv [k:Ok h]:h.hid=[]:=k.hid
theorem jjg [k:Ok h] {n:Nat} {hid:List (Nat×Nat)}:(h.hide lo hid).get n=if jan hid n=true then none else h.get n:=j8u k
theorem jjh [k:Ok h] {e:TypeId} {size:Nat} {len:Nat} {ps:List (Nat×Nat×Od)}:je3 st fr h (.bslice e size z len ps)=bsO h e size len (fill st fr ps z):=j4q k
theorem jsw [k:Ok h] {e:TypeId} {x:Od}:je3 st fr h (.box e x)=qmk h e (ev st fr x):=qjz k
theorem jji [k:Ok h] {e:TypeId}:je3 st fr h (.new e z)=some (.s (.ptr h.next 0),h.push (.arr z e)):=qdj k
theorem jsx [k:Ok h] {b:Nat} {x:SV}:jhx h 1 (some (.s (.ptr b o))) (some (.s x))=stR (wrB h b (h.get b) o [x]):=j8w k
theorem jjj [k:Ok h] {n b:Nat} {cs:List SV} (hn:cs.length=n):jhx h n (some (.s (.ptr b o))) (some (.agg cs))=stR (wrB h b (h.get b) o cs):=j1w k hn
theorem jjk [k:Ok h] {b:Nat} {t:SV}:jhx h 2 (some (.s (.ptr b o))) (some (.agg [t,u]))=stR (wrB h b (h.get b) o [t,u]):=jjj rfl
theorem jjl [k:Ok h] {b:Nat} {t v:SV}:jhx h 3 (some (.s (.ptr b o))) (some (.agg [t,u,v]))=stR (wrB h b (h.get b) o [t,u,v]):=jjj rfl
theorem jjm [k:Ok h] {b:Nat} {t v w:SV}:jhx h 4 (some (.s (.ptr b o))) (some (.agg [t,u,v,w]))=stR (wrB h b (h.get b) o [t,u,v,w]):=jjj rfl
theorem jjn [k:Ok h] {b:Nat} {t v w x:SV}:jhx h 5 (some (.s (.ptr b o))) (some (.agg [t,u,v,w,x]))=stR (wrB h b (h.get b) o [t,u,v,w,x]):=jjj rfl
theorem jjo [k:Ok h] {b:Nat} {t v w x y z:SV}:jhx h 7 (some (.s (.ptr b o))) (some (.agg [t,u,v,w,x,y,z]))=stR (wrB h b (h.get b) o [t,u,v,w,x,y,z]):=jjj rfl
theorem jjp [k:Ok h] {x:AB} {n:Nat}:(h.push x).get n=if n=h.next then some x else h.get n:=ja0 k
theorem jjq [k:Ok h] {b n:Nat} {x:Option AB} (hb:1<=b):(h.put b x).get n=if n=b then x else h.get n:=jai k hb
def mkL (agg:Bool) (x:Option (List SV)):Option AV:=ob x (fun cs=>jfr agg cs)
theorem qdw {cs:List SV}:mkL true (some cs)=some (.agg cs):=rfl
theorem qdx {a:SV}:mkL false (some [a])=some (.s a):=rfl
theorem j4v {n b:Nat}:jl5 h n agg (.s (.ptr b o))=mkL agg (rdB (h.get b) o n):=rfl
theorem qdy {n:Nat} {cs:List SV}:jl5 h n agg (.s (.cp cs))=mkL agg (jb2 n cs):=rfl
theorem qdz {a b:Int} (h1:0<=a) (h3:0<b):0<=a % b/\a % b<=a:=by
 have h2:=Int.emod_add_mul_ediv a b
 have h:=Int.ediv_nonneg h1 (Int.le_of_lt h3)
 have h4:=Int.mul_nonneg (Int.le_of_lt h3) h
 exact⟨Int.emod_nonneg a (by omega),by omega⟩
theorem jex {a b:Int} (h1:0<=a) (h2:a<=9223372036854775807) (h3:0<b):jd8 .rem (.int .i64 a) (.int .i64 b)=some (vi (a % b)):=by
 have:=qdz h1 h3
 rw[jxg,if_neg (by omega),f2q h1,jhl (by omega) (by omega)]
theorem j4w {a b:Int} (h1:-9223372036854775808<=a) (h2:a<=9223372036854775807) (h3:0<b):-9223372036854775808<=a.tdiv b/\a.tdiv b<=9223372036854775807:=by
 have h:=Int.natAbs_tdiv_le_natAbs a b
 rcases(by omega:a<0∨0<=a) with h4 | h4
 .have h5:a.tdiv b<=0:=by
   obtain⟨c,rfl⟩:∃ c,a=-c:=⟨-a,by omega⟩
   rw[Int.neg_tdiv]
   have:=Int.tdiv_nonneg (a:=c) (b:=b) (by omega) (Int.le_of_lt h3)
   omega
  omega
 .omega
theorem jif {a b:Int} (h1:-9223372036854775808<=a) (h2:a<=9223372036854775807) (h3:0<b):jd8 .quo (.int .i64 a) (.int .i64 b)=some (vi (a.tdiv b)):=by
 have:=j4w h1 h2 h3
 rw[qdf,if_neg (by omega),jhl this.1 this.2]
theorem jig {a n:Int} {k:IntKind} (h1:0<=n) (h2:n<=63):jd8 .shr (.int .i64 a) (.int k n)=some (vi (a / 2 ^ n.toNat)):=by
 obtain⟨m,rfl⟩:=Int.eq_ofNat_of_zero_le h1
 exact qdg (by omega)
theorem jeh {a n:Nat}:(a=a+(n+1))=False:=eq_false (by omega)
theorem jei {a n:Nat}:(a+(n+1)=a)=False:=eq_false (by omega)
theorem j8x {e:TypeId} {x:SV} (ok:Ok h) (h1:bytes<=1000):qjx h e 1 bytes [x] (vi 2) (vi 2)=some (.s (.slice h.next 0 2 2 true 1),h.push (.arr [x,x] e)) :=
 jxh (m:=2) ok (by omega) (by omega)
theorem jf8 [ok:Ok h] {e:TypeId} {x:SV} (h1:bytes<=1000):qjx h e 1 bytes [x] (vi 2) (vi 2)=some (.s (.slice h.next 0 2 2 true 1),h.push (.arr [x,x] e)):=j8x ok h1
theorem jio {a b:Nat} (h:a≠b):(a=b)=False:=eq_false h
theorem jdh {a b:Nat} (h:b<a):(a<=b)=False:=eq_false (by omega)
theorem jdi {a b:Nat} (h:b<=a):(a<b)=False:=eq_false (by omega)
theorem jip {a b:Nat} (h:a<=b):(a<=b)=True:=eq_true h
theorem jiq {a b:Nat} (h:a<b):(a<b)=True:=eq_true h
theorem qp2 {a b:Int} (h:a<=b):(a<=b)=True:=eq_true h
theorem qp3 {a b:Int} (h:a<b):(a<b)=True:=eq_true h
def qd0 (F:Fns) (dst:Option Nat) (m:List (IOper×Option (List Nat))) (st:List AV) (es:List Ent) (fr:List AV) (h:Hp) (Q:Ex->St->Prop) (v:AV) (h':Hp):Prop:=WD F m (v::st) (.mk [(h.next,h'.next)] none::es) (jcn fr dst v) (.mk h'.next h'.tr h.lo h.hid) Q
def zkH (F:Fns) (x:Option (List (Nat×Nat))) (vs:Option (List AV)) (f:FuncId) (dst:Option Nat) (m:List (IOper×Option (List Nat))) (st:List AV) (es:List Ent) (fr:List AV) (h:Hp) (Q:Ex->St->Prop):Prop:=obP x (fun hid'=>obP vs (fun vs=>WC F f vs (h.hide h.next hid') (qd0 F dst m st es fr h Q)))
theorem jsy {x:List (Nat×Nat)} {f:FuncId}:zkH F (some x) (some vs) f dst m st es fr h Q=WC F f vs (h.hide h.next x) (qd0 F dst m st es fr h Q):=by
 unfold zkH;rw[jby,jby]
theorem jlg {x:List (Nat×Nat)}:qd0 F dst m st es fr h Q v (h.hide lo x)=WD F m (v::st) (.mk [(h.next,h.next)] none::es) (jcn fr dst v) h Q:=by cases h;rfl
theorem jf9 {f:FuncId} {as:List Od}:WD F ((.mk dst (.a (.call f as)) none,some js)::m) st es fr h Q=zkH F (sel es js h.hid) (evs st fr as) f dst m st es fr h Q:=by
 cases h with
 | mk k t lo hid =>
 rw[jnz]
 have key:∀ n v h' e,jwe (jbr F (run F n)) st fr es (.mk k t lo hid) (.a (.call f as)) none (some js)=some (.mk v h' e)↔∃ x vs h1,sel es js hid=some x/\evs st fr as=some vs/\jbr F (run F n) f vs (.mk k t k x)=some (v,h1)/\h'=.mk h1.next h1.tr lo hid/\e=.mk [(k,h1.next)] none:=fun n v h' e=>by
  have e0:jwe (jbr F (run F n)) st fr es (.mk k t lo hid) (.a (.call f as)) none (some js)=ob (sel es js hid) (fun x=>ob (ob (evs st fr as) (fun vs=>jbr F (run F n) f vs (.mk k t k x))) (fun p=>Hp.casesOn (motive:=fun _=>Option DR) p.2 (fun n' t' _ _=>some (.mk p.1 (.mk n' t' lo hid) (.mk [(k,n')] none))))):=rfl
  rw[e0]
  constructor
  .intro h1
   obtain⟨x,hx,h2⟩:=jaa.1 h1
   obtain⟨p,hp,h3⟩:=jaa.1 h2
   obtain⟨vs,hvs,h4⟩:=jaa.1 hp
   obtain⟨v1,⟨n1,t1,l1,d1⟩⟩:=p
   cases h3
   exact⟨x,vs,_,hx,hvs,h4,rfl,rfl⟩
  .rintro ⟨x,vs,⟨n1,t1,l1,d1⟩,hx,hvs,h4,rfl,rfl⟩
   exact jaa.2 ⟨x,hx,jaa.2 ⟨(v,.mk n1 t1 l1 d1),jaa.2 ⟨vs,hvs,h4⟩,rfl⟩⟩
 refine propext ⟨fun⟨n,v,h',e,h1,h2⟩=>?_,fun⟨x,hx,vs,hvs,n,v,h1,h2,h3⟩=>⟨n,v,_,_,(key n v _ _).2 ⟨x,vs,h1,hx,hvs,h2,rfl,rfl⟩,h3⟩⟩
 obtain⟨x,vs,h3,hx,hvs,h4,rfl,rfl⟩:=(key n v h' e).1 h1
 exact⟨x,hx,vs,hvs,n,v,h3,h4,h2⟩
theorem jc7 {a:Nat} {n:Nat}:((a:Int) / 2 ^ n)=((a / 2 ^ n:Nat):Int):=by
 rw[Int.natCast_ediv,f29];rfl
theorem jc8:(4+(i:Int)).toNat=4+i:=by omega
theorem jc9:(9+(i:Int)).toNat=9+i:=by omega
theorem jda:(i:Int).toNat=i:=by omega
theorem jih {a:Nat}:decide ((a:Int) % 2=1)=decide (a % 2=1):=decide_eq_decide.2 (by omega)
theorem jey {a:Nat}:(a:Int).tdiv 4=((a / 4:Nat):Int):=rfl
theorem jez {a:Nat}:(a:Int).tdiv 5=((a / 5:Nat):Int):=rfl
theorem jf1 {x:Option AB} {off sz:Nat} {c:SV} (hr:rdB x off sz=some row) (hj:row[j]?=some c):rdB x (off+j) 1=some [c]:=by
 cases x with
 | none=>cases hr
 | some x =>
  cases x with
  | map va es=>cases hr
  | arr cs ty =>
   rw[jdo,jbq] at hr ⊢
   obtain⟨h1,rfl⟩:=(jax _).1 hr
   have hjs:j<sz:=by
    rcases f0h j sz with h | h
    .exact h
    .rw [f0m (by simp;omega)] at hj;cases hj
   have hj2:cs[off+j]?=some c:=by
    rw[f1r,if_pos hjs,f1d] at hj;exact hj
   have hl:off+j<cs.length:=by
    rcases f0h (off+j) cs.length with h | h
    .exact h
    .rw [f0m h] at hj2;cases hj2
   refine(jax _).2 ⟨by simp;omega,?_⟩
   have e:cs.drop (off+j)=c::cs.drop (off+j+1):=by
    rw[f1o hl]
    rw[f0c hl] at hj2
    rw[Option.some.inj hj2]
   rw[e];rfl
def mmV (mx:Bool) (x y:Option AV):Option AV:=ob x (fun a=>ob y (fun b=>jj7 a (fun k m=>jj7 b (fun k' n=>oif (Nat.beq (ikn k) (ikn k')) (some (.s (.int k (oif (ile m n) (oif mx n m) (oif mx m n))))) none))))
theorem qd1 {mx:Bool} {x y:Od}:pop st fr (.mm mx x y)=mmV mx (ev st fr x) (ev st fr y):=rfl
theorem jx1 {a b:Int}:mmV false (some (.s (.int .i64 a))) (some (.s (.int .i64 b)))=some (vi (if a<=b then a else b)):=by
 show some (AV.s (.int .i64 (oif (ile a b) a b)))=_
 rw[jat,jea];simp only[decide_eq_true_eq]
theorem jsz {a b:Int}:mmV true (some (.s (.int .i64 a))) (some (.s (.int .i64 b)))=some (vi (if a<=b then b else a)):=by
 show some (AV.s (.int .i64 (oif (ile a b) b a)))=_
 rw[jat,jea];simp only[decide_eq_true_eq]
end
theorem qp4:type_of% @Int.cast_ofNat_Int:=@Int.cast_ofNat_Int
theorem qp5:type_of% @Int.natCast_zero:=@Int.natCast_zero
theorem qp6:type_of% @Int.natCast_one:=@Int.natCast_one
theorem qp7:type_of% @decide_eq_true_eq:=@decide_eq_true_eq
theorem qp8:type_of% @decide_eq_false_iff_not:=@decide_eq_false_iff_not
theorem qp9:type_of% @Bool.false_eq_true:=@Bool.false_eq_true
theorem qqa:type_of% @and_true:=@and_true
theorem qqb:type_of% @true_and:=@true_and
theorem qqc:type_of% @List.cons_append:=@List.cons_append
theorem qqd:type_of% @List.nil_append:=@List.nil_append
theorem qnm:type_of% @decide_true:=@decide_true
theorem qnn:type_of% @decide_false:=@decide_false
theorem qno:type_of% @Bool.not_true:=@Bool.not_true
theorem qnp:type_of% @Bool.not_false:=@Bool.not_false
theorem qnq:type_of% @Nat.add_zero:=@Nat.add_zero
theorem qnr:type_of% @Nat.zero_add:=@Nat.zero_add
theorem qns:type_of% @Option.some.injEq:=@Option.some.injEq
theorem qnt:type_of% @Bool.true_eq_false:=@Bool.true_eq_false
theorem qnu:type_of% @not_true_eq_false:=@not_true_eq_false
theorem qnv:type_of% @not_false_eq_true:=@not_false_eq_true
theorem qnw:type_of% @Hp.next_push:=@Hp.next_push
theorem qnx:type_of% @Hp.next_put:=@Hp.next_put
theorem qny:type_of% @Nat.add_assoc:=@Nat.add_assoc
attribute [go_sem] jf9 jsy jlg j3s qc8 j3t j8m jw3 jxk jr9 jrp j3u j3v jxl jr4 jxm jr7 jr6 jsa jr8 joj jr5 j3x jxn jsb jsc jxo jse jsd jsg jsf jok jg4 jol jg5 jom jfo jon jxp jjf jfh jkx jnv jh7 jnw jro jg0 jky jnx j4d j4f joo jlc jxq jsh j4h jxs j4e j4g jop jld jxr jsi j4i jxt qne qnf qng jw5 jrq jn2 jn3 jn4 jn5 jn6 jn7 jia jib qnh qni jbi qdd jn8 jrr jk0 jrs jk1 qde jw6 j30 j31 j32 jrt jk2 jk3 jk4 jk5 jn9 jru joa job jk6 jg2 jde joc jw7 jw8 qd1 jx1 jsz j33 jxw jle jod jrv joe j4j joq jw9 jxa j4k jsj jxu jrw j4o jsm jsl jxv jor jsk jrx jjd jry jof jk7 jic jog jrz jr0 j4l jos jr1 jje jk8 joh jxd jxe jxf jif jex jig j35 j36 j37 j38 j39 j4a j4m jot j4n jou j4s qdt qdu j4t qdv jxy jxz jss jx0 joy jie jst jla jew jlb j4u jsu qdm jdo joi jxx jov jsn qdq qdr jso jsp jlf jox j4p jow jsq j4r jsr jxj j4c jxi jr3 jk9 jid j4v qdy qdw qdx jeh jei jcf jcp jev jdp jdq jef jeg jsv jjg jjh jsw jji jsx jjk jjl jjm jjn jjo jjj jjp jjq jf8 jce jbf qp4 qp5 qp6 qp7 qp8 qp9 qqa qqb qqc qqd qnm qnn qno qnp qnq qnr qns qnt qnu qnv qnw qnx qny
end
end Go.Proofs.Ytkeenpohacdanaa.Ev
