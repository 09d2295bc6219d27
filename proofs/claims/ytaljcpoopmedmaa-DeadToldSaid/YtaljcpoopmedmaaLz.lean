/- Open runs: what operations answer at values that are known in part. No program in sight. -/
import Derived.Test.YtaljcpoopmedmaaOp
namespace Go.Proofs.Ytaljcpoopmedmaa.Ev
open Go Go.RowKit
set_option linter.all false
abbrev vi (n:Int):AV:=.s (.int .i64 n)
abbrev vb (b:Bool):AV:=.s (.bool b)
abbrev si (n:Int):SV:=.int .i64 n
section
variable {st fr:List AV} {h:Hp} {α β:Type}
theorem qj3 {i:Nat}:ev st fr (.l i)=jeb st i:=rfl
theorem qj4 {i:Nat}:ev st fr (.g i)=jeb fr i:=rfl
theorem qj5 {v:AV}:ev st fr (.c v)=some v:=rfl
theorem jxr:evs st fr []=some []:=rfl
theorem jsg {o:Od} {l:List Od}:evs st fr (o::l)=ob (ev st fr o) (fun v=>ob (evs st fr l) (fun r=>some (v::r))):=rfl
theorem jok {a:α} {l:List α}:jeb (a::l) 0=some a:=rfl
theorem jol {a:α} {l:List α} {n:Nat}:jeb (a::l) (n+1)=jeb l n:=rfl
theorem jom {a x:α} {l:List α}:jqh (a::l) 0 x=x::l:=rfl
theorem jon {a x:α} {l:List α} {n:Nat}:jqh (a::l) (n+1) x=a::jqh l n x:=rfl
theorem joo {v:AV}:jcc fr none v=fr:=rfl
theorem jop {d:Nat} {v:AV}:jcc fr (some d) v=jqh fr d v:=rfl
theorem ji7:jc8 0=[]:=rfl
theorem ji8 {n:Nat}:jc8 (n+1)=.undef::jc8 n:=rfl
theorem qj6 {a:α} {f:α->Option β}:ob (some a) f=f a:=rfl
theorem qj7 {f:α->Option β}:ob none f=none:=rfl
theorem jb8 {b:Bool} {x y:α}:oif b x y=if b=true then x else y:=by cases b<;>rfl
theorem qd2 {e:Option β} {x:SV} {f:SV->Option β}:svc e (.s x) f=f x:=rfl
theorem joq {e:Option β} {f:SV->Option β}:svc e .undef f=e:=rfl
theorem jsh {k:IntKind} {n:Int} {f:IntKind->Int->Option β}:j81 (.int k n) f=f k n:=rfl
theorem jlf {b:Bool} {f:Bool->Option β}:jmj (.bool b) f=f b:=rfl
theorem jsi {k:IntKind} {n:Int} {f:IntKind->Int->Option β}:jmt (.s (.int k n)) f=f k n:=rfl
theorem jlg {b:Bool} {f:Bool->Option β}:jix (.s (.bool b)) f=f b:=rfl
theorem qd3 {x:SV} {f:List SV->Option β}:cel (.s x) f=f [x]:=rfl
theorem jxs {l:List SV} {f:List SV->Option β}:cel (.agg l) f=f l:=rfl
theorem j4y {a:SV}:je7 false [a]=some (.s a):=rfl
theorem j4z {l:List SV}:je7 true l=some (.agg l):=rfl
theorem j40 {x:SV} {f:List SV->Option β}:jwz false (.s x) f=f [x]:=rfl
theorem jsj {l:List SV} {f:List SV->Option β}:jwz true (.agg l) f=f l:=rfl
theorem jlh {l:List α}:jbx 0 l=some []:=rfl
theorem jli {a:α} {l:List α} {n:Nat}:jbx (n+1) (a::l)=ob (jbx n l) (fun x=>some (a::x)):=rfl
theorem jlj {l:List α}:jcb 0 l=l:=rfl
theorem jlk {a:α} {l:List α} {n:Nat}:jcb (n+1) (a::l)=jcb n l:=rfl
theorem jor {n:Nat}:jcb n ([]:List α)=[]:=by cases n<;>rfl
theorem jsk:jc1 ([]:List α)=0:=rfl
theorem jos {a:α} {l:List α}:jc1 (a::l)=jc1 l+1:=rfl
theorem jot {l:List α}:jp9 [] l=some l:=rfl
theorem jll {x a:α} {xs l:List α}:jp9 (x::xs) (a::l)=ob (jp9 xs l) (fun y=>some (x::y)):=rfl
theorem jh4 {xs l:List α}:jbu 0 xs l=jp9 xs l:=rfl
theorem jf5 {a:α} {xs l:List α} {n:Nat}:jbu (n+1) xs (a::l)=ob (jbu n xs l) (fun y=>some (a::y)):=rfl
theorem jou {a:Nat}:Nat.beq a a=true:=Nat.beq_refl a
theorem jxt {a b:Nat}:(Nat.beq a b=true)=(a=b):=jgz a b
theorem jxu {a b:Nat}:(Nat.ble a b=true)=(a<=b):=jup a b
theorem j41 {x:Od}:pop st fr (.mv x)=ev st fr x:=rfl
theorem jov {z:List SV} {ps:List (Nat×Nat×Od)}:pop st fr (.build z ps)=ob (fill st fr ps z) (fun cs=>some (.agg cs)):=rfl
theorem jsl {cs:List SV}:fill st fr [] cs=some cs:=rfl
theorem jow {off n:Nat} {o:Od} {ps:List (Nat×Nat×Od)} {cs:List SV}:fill st fr ((off,n,o)::ps) cs=ob (ev st fr o) (fun v=>cel v (fun xs=>oif (Nat.beq (jc1 xs) n) (ob (jbu off xs cs) (fill st fr ps)) none)):=rfl
theorem jxv {x:Od}:pop st fr (.not x)=ob (ev st fr x) (fun v=>jix v (fun b=>some (.s (.bool (!b))))):=by
 show ob (ev st fr x) (fun v=>jix v (fun b=>some (AV.s (.bool (jhj b)))))=_
 congr 1;funext v;congr 1;funext b;cases b<;>rfl
theorem jxw {x:Od}:pop st fr (.neg x)=ob (ev st fr x) (fun v=>jmt v (fun k n=>j3c k (-n))):=rfl
theorem jsm {off n:Nat} {agg:Bool} {x:Od}:pop st fr (.fval off n agg x)=ob (ev st fr x) (fun v=>AV.casesOn (motive:=fun _=>Option AV) v (fun _=>none) (fun cs=>ob (jbx n (jcb off cs)) (fun cs=>je7 agg cs)) (fun _=>none) none none):=rfl
theorem jsn {k:IntKind} {x:Od}:pop st fr (.conv k x)=ob (ev st fr x) (fun v=>jmt v (fun _ n=>j80 k n)):=rfl
theorem jkc {f:FuncId} {cs:List Od}:pop st fr (.mkfun f cs)=ob (evs st fr cs) (fun vs=>ob (qa5 vs) (fun ps=>some (.s (.func f ps)))):=rfl
theorem jso:qa5 []=some []:=rfl
theorem jox {b o:Nat} {l:List AV}:qa5 (.s (.ptr b o)::l)=ob (qa5 l) (fun r=>some ((b,o)::r)):=rfl
theorem jlm:jgg []=[]:=rfl
theorem ji9 {b o:Nat} {l:List (Nat×Nat)}:jgg ((b,o)::l)=.s (.ptr b o)::jgg l:=rfl
theorem joy {b o:Nat} {f:Nat->Nat->Option β} {g:List SV->Option β}:je6 (.s (.ptr b o)) f g=f b o:=rfl
theorem jsp {cs:List SV} {f:Nat->Nat->Option β} {g:List SV->Option β}:je6 (.s (.cp cs)) f g=g cs:=rfl
theorem jsq {b o:Nat} {f:Nat->Nat->Option β}:jrr (.s (.ptr b o)) f=f b o:=rfl
noncomputable def jvo (v:AV):Option AV:=jc7 v (some (.s (.int .i64 0))) (fun _ _ n _ _ _=>some (.s (.int .i64 (Int.ofNat n)))) (fun rows=>some (.s (.int .i64 (Int.ofNat (jc1 rows))))) (some (.s (.int .i64 0)))
theorem jsr:jvo (.s .nilSlice)=some (vi 0):=rfl
theorem jkd {rows:List (List SV)}:jvo (.s (.lst rows))=some (vi rows.length):=by
 show some (AV.s (.int .i64 (Int.ofNat (jc1 rows))))=_
 rw [jbd];rfl
theorem jln {b o n mc sz:Nat} {e:Bool}:jvo (.s (.slice b o n mc e sz))=some (vi n):=rfl
def j42 (n:Int):Option AV:=if -9223372036854775808<=n/\n<=9223372036854775807 then some (vi n) else none
theorem j9z {n:Int} (h1:-9223372036854775808<=n) (h2:n<=9223372036854775807):inR .i64 n=true:=by
 cases n with
 | ofNat m=>exact (jup m 9223372036854775807).symm▸(by have:(m:Int)<=9223372036854775807:=h2
                                                       omega)
 | negSucc m=>exact (jup m 9223372036854775807).symm▸(by have:-9223372036854775808<=Int.negSucc m:=h1
                                                         omega)
theorem joz {n:Int}:j3c .i64 n=j42 n:=by
 unfold j42
 show oif (inR .i64 n) (some (AV.s (.int .i64 n))) none=_
 split
 ·rename_i h;rw [j9z h.1 h.2];rfl
 ·rename_i h
  cases e:inR .i64 n with
  | false=>rfl
  | true =>
   rcases jdh e with ⟨_,a,b⟩ | ⟨e,_⟩ | ⟨e,_⟩
   ·exact absurd ⟨a,b⟩ h
   ·cases e
   ·cases e
theorem jik {n:Int} (h1:-9223372036854775808<=n) (h2:n<=9223372036854775807):j42 n=some (vi n):=if_pos ⟨h1,h2⟩
def w64 (n:Int):Int:=IntKind.wrap .i64 n
theorem jah {n:Int} (h1:-9223372036854775808<=n) (h2:n<=9223372036854775807):w64 n=n:=jjs (j9z h1 h2)
theorem jxx {n:Int}:j8y .i64 n=some (vi (w64 n)):=by
 show oif (inR .i64 n) (some (AV.s (.int .i64 n))) (some (AV.s (.int .i64 (IntKind.wrap .i64 n))))=_
 cases e:inR .i64 n with
 | true=>rw [show w64 n=n from jjs e];rfl
 | false=>rfl
variable {a b:Int}
theorem jxy:jej .add (.int .i64 a) (.int .i64 b)=some (vi (w64 (a+b))):=by
 rw [←jxx];show j8y .i64 (qa4 a b)=_;rw [jry]
theorem jxz:jej .sub (.int .i64 a) (.int .i64 b)=some (vi (w64 (a - b))):=by rw [←jxx];rfl
theorem jx0:jej .mul (.int .i64 a) (.int .i64 b)=some (vi (w64 (a*b))):=by rw [←jxx];rfl
theorem qd4:jej .quo (.int .i64 a) (.int .i64 b)=if b=0 then none else j42 (a.tdiv b):=by
 rw [←joz]
 show oif (ieq b 0) none (j3c .i64 (a.tdiv b))=_
 rw [jas,jcy];simp only [decide_eq_true_eq]
theorem jx1:jej .rem (.int .i64 a) (.int .i64 b)=if b=0 then none else j42 (a.tmod b):=by
 rw [←joz]
 show oif (ieq b 0) none (j3c .i64 (a.tmod b))=_
 rw [jas,jcy];simp only [decide_eq_true_eq]
theorem j43:jej .eq (.int .i64 a) (.int .i64 b)=some (vb (decide (a=b))):=by
 show some (AV.s (.bool (ieq a b)))=_;rw [jcy]
theorem j44:jej .ne (.int .i64 a) (.int .i64 b)=some (vb (decide (a≠b))):=by
 show some (AV.s (.bool (jhj (ieq a b))))=_;rw [jcy,jgc];congr 3;by_cases h:a=b<;>simp [h]
theorem j45:jej .lt (.int .i64 a) (.int .i64 b)=some (vb (decide (a<b))):=by
 show some (AV.s (.bool (jhj (ile b a))))=_;rw [jdn,jgc];congr 3;by_cases h:a<b<;>simp [h]
 omega
theorem j46:jej .le (.int .i64 a) (.int .i64 b)=some (vb (decide (a<=b))):=by
 show some (AV.s (.bool (ile a b)))=_;rw [jdn]
theorem j47:jej .gt (.int .i64 a) (.int .i64 b)=some (vb (decide (b<a))):=by
 show some (AV.s (.bool (jhj (ile a b))))=_;rw [jdn,jgc];congr 3;by_cases h:b<a<;>simp [h]
 omega
theorem j48:jej .ge (.int .i64 a) (.int .i64 b)=some (vb (decide (b<=a))):=by
 show some (AV.s (.bool (ile b a)))=_;rw [jdn]
theorem qd5 {n:Nat} {k:IntKind} (hn:n<=63):jej .shr (.int .i64 a) (.int k (n:Int))=some (vi (a / 2 ^ n)):=by
 have hs:j8z .i64 n=true:=by
  have hI:jnc .i64=true:=rfl
  unfold j8z
  simp [jas,jup,hn,hI]
 have e:jej .shr (.int .i64 a) (.int k (n:Int))=juq .shr .i64 a (n:Int):=by
  show oif (Nat.beq (ikn .i64) (ikn k)) (juq .shr .i64 a n) (oif true (juq .shr .i64 a n) none)=_
  cases Nat.beq (ikn .i64) (ikn k)<;>rfl
 rw [e]
 cases a with
 | ofNat m =>
  show oif (j8z .i64 n) (some (AV.s (.int .i64 (Int.ofNat (Nat.div m (Nat.pow 2 n)))))) none=_
  rw [hs]
  have:Int.ofNat (Nat.div m (Nat.pow 2 n))=Int.ofNat m / 2 ^ n:=by
   show ((m / 2 ^ n:Nat):Int)=(m:Int) / 2 ^ n
   rw [Int.natCast_ediv,Int.natCast_pow];rfl
  rw [this];rfl
 | negSucc m =>
  show oif (j8z .i64 n) (some (AV.s (.int .i64 (Int.negSucc (Nat.div m (Nat.pow 2 n)))))) none=_
  rw [hs]
  have:Int.negSucc (Nat.div m (Nat.pow 2 n))=Int.negSucc m / 2 ^ n:=by
   obtain ⟨q,hq⟩:∃ q,2 ^ n=q+1:=⟨2 ^ n - 1,by have:=Nat.two_pow_pos n;omega⟩
   have h2:(2:Int) ^ n=((q+1:Nat):Int):=by rw [←hq,Int.natCast_pow];rfl
   have h3:Nat.pow 2 n=q+1:=hq
   rw [h2,h3];rfl
  rw [this];rfl
theorem jg5 (h1:-9223372036854775808<=a) (h2:a<=9223372036854775807):jej .and (.int .i64 a) (.int .i64 1)=some (vi (a % 2)):=by
 have hr:=j9z h1 h2
 cases a with
 | ofNat m =>
  show oif (inR .i64 (.ofNat m)) (some (AV.s (.int .i64 (.ofNat (Nat.land m 1))))) none=_
  rw [hr]
  have:Int.ofNat (Nat.land m 1)=Int.ofNat m % 2:=by
   rw [show Nat.land m 1=m % 2 from Nat.and_one_is_mod m];rfl
  rw [this];rfl
 | negSucc m =>
  show oif (inR .i64 (.negSucc m)) (some (AV.s (.int .i64 (.ofNat (Nat.xor 1 (Nat.land 1 m)))))) none=_
  rw [hr]
  have:Int.ofNat (Nat.xor 1 (Nat.land 1 m))=Int.negSucc m % 2:=by
   have e:Nat.land 1 m=m % 2:=(Nat.and_comm 1 m).trans (Nat.and_one_is_mod m)
   rw [e]
   rcases Nat.mod_two_eq_zero_or_one m with h | h
   ·rw [h];show (1:Int)=_;omega
   ·rw [h];show (0:Int)=_;omega
  rw [this];rfl
theorem qd6 (h1:-9223372036854775808<=a) (h2:a<=9223372036854775807):jej .or (.int .i64 a) (.int .i64 1)=some (vi (a+(1 - a % 2))):=by
 have hr:=j9z h1 h2
 cases a with
 | ofNat m =>
  show oif (inR .i64 (.ofNat m)) (some (AV.s (.int .i64 (.ofNat (Nat.lor m 1))))) none=_
  rw [hr]
  have:Int.ofNat (Nat.lor m 1)=Int.ofNat m+(1 - Int.ofNat m % 2):=by
   have e:m ||| 1=m+(1 - m % 2):=by
    have h1:(m ||| 1) / 2=m / 2:=by rw [Nat.or_div_two];simp
    have h2:(m ||| 1) % 2=1:=by rw [Nat.or_mod_two_eq_one];simp
    omega
   show ((m ||| 1:Nat):Int)=(m:Int)+(1 - (m:Int) % 2)
   rw [e];omega
  rw [this];rfl
 | negSucc m =>
  show oif (inR .i64 (.negSucc m)) (some (AV.s (.int .i64 (.negSucc (Nat.xor m (Nat.land m 1)))))) none=_
  rw [hr]
  have:Int.negSucc (Nat.xor m (Nat.land m 1))=Int.negSucc m+(1 - Int.negSucc m % 2):=by
   have e:m ^^^ (m &&& 1)=m - m % 2:=by
    have h1:(m ^^^ (m &&& 1)) / 2=m / 2:=by rw [Nat.xor_div_two,Nat.and_div_two];simp
    have h2:¬ (m ^^^ (m &&& 1)) % 2=1:=by
     have e:m &&& 1=m % 2:=Nat.and_one_is_mod m
     rw [e,Nat.xor_mod_two_eq_one];omega
    omega
   show Int.negSucc (m ^^^ (m &&& 1))=_
   rw [e];omega
  rw [this];rfl
end
structure Ok (h:Hp):Prop where
 hid:h.hid=[]
 lo:h.lo=0
 pos:1<=h.next
theorem jil {a b:Nat} (h:a<=b):Nat.ble a b=true:=by rw [jup];exact h
theorem jem:Ok h0:=⟨rfl,rfl,Nat.le_refl 1⟩
section
variable {h:Hp} {F:Fns} {st fr:List AV} {Q:Ex->St->Prop} {β:Type}
theorem jac {x:AB} (k:Ok h):Ok (h.push x):=⟨k.hid,k.lo,Nat.le_succ_of_le k.pos⟩
theorem jad {b:Nat} {x:Option AB} (k:Ok h):Ok (h.put b x):=⟨by rw [Hp.hid_put];exact k.hid,by rw [Hp.lo_put];exact k.lo,by rw [Hp.next_put];exact k.pos⟩
theorem jav {x:AB} {n:Nat} (k:Ok h):(h.push x).get n=if n=h.next then some x else h.get n:=by
 rw [Hp.get_eq,Hp.get_eq,Hp.hid_push,k.hid]
 have e:jaq [] n=false:=rfl
 rw [e]
 show (h.tr.put (Nat.succ h.next) h.next (some x)).get n=_
 split
 ·rename_i hn;subst hn;exact jbq _ _ _ _ k.pos (jl6 _)
 ·rename_i hn;exact jbz _ _ _ _ n k.pos (jl6 _) hn
theorem jai {b n:Nat} {x:Option AB} (k:Ok h) (hb:1<=b):(h.put b x).get n=if n=b then x else h.get n:=by
 rw [Hp.get_eq,Hp.get_eq,Hp.hid_put,k.hid,Hp.tr_put]
 have e:jaq [] n=false:=rfl
 rw [e]
 show (h.tr.put (Nat.succ b) b x).get n=_
 split
 ·rename_i hn;subst hn;exact jbq _ _ _ _ hb (jl6 _)
 ·rename_i hn;exact jbz _ _ _ _ n hb (jl6 _) hn
noncomputable def Hp.hide (h:Hp) (lo:Nat) (hid:List (Nat×Nat)):Hp:=.mk h.next h.tr lo hid
theorem jaa {n:Nat}:jaq [] n=false:=by cases n<;>rfl
theorem jja {a b n:Nat} {l:List (Nat×Nat)}:jaq ((a,b)::l) n=if a<=n/\n<b then true else jaq l n:=by
 show oif (Nat.ble a n) (oif (Nat.ble (n+1) b) true (jaq l n)) (jaq l n)=_
 simp only [jas,jup]
 by_cases h1:a<=n
 ·by_cases h2:n+1<=b
  ·rw [if_pos h1,if_pos h2,if_pos ⟨h1,h2⟩]
  ·rw [if_pos h1,if_neg h2,if_neg (fun h=>h2 h.2)]
 ·rw [if_neg h1,if_neg (fun h=>h1 h.1)]
theorem jep {lo n:Nat} {hid:List (Nat×Nat)} (k:Ok h):(h.hide lo hid).get n=if jaq hid n=true then none else h.get n:=by
 rw [Hp.get_eq,Hp.get_eq,k.hid];rfl
theorem jvp {cs:List SV} {ty:TypeId} {f:Nat->Hp->Option β} (k:Ok h):nw h cs ty f=f h.next (h.push (.arr cs ty)):=by
 cases h with
 | mk n t lo hid =>
  obtain rfl:hid=[]:=k.hid
  rfl
noncomputable def rdB (x:Option AB) (off n:Nat):Option (List SV):=ob x (fun x=>AB.casesOn (motive:=fun _=>Option (List SV)) x (fun cs _=>jbx n (jcb off cs)) (fun _ _=>none))
theorem jfe {cs:List SV} {ty:TypeId} {off n:Nat}:rdB (some (.arr cs ty)) off n=jbx n (jcb off cs):=rfl
noncomputable def wrB (h:Hp) (b:Nat) (x:Option AB) (off:Nat) (xs:List SV):Option Hp:=ob x (fun x=>AB.casesOn (motive:=fun _=>Option Hp) x (fun cs ty=>ob (jbu off xs cs) (fun cs'=>some (h.put b (some (.arr cs' ty))))) (fun _ _=>none))
theorem qhp {b off:Nat} {xs:List SV} (k:Ok h):wr h b off xs=wrB h b (h.get b) off xs:=by
 show oif (Nat.ble h.lo b) _ none=_
 rw [k.lo];rfl
theorem jss {b:Nat} {cs:List SV} {ty:TypeId} {off:Nat} {xs:List SV}:wrB h b (some (.arr cs ty)) off xs=ob (jbu off xs cs) (fun cs'=>some (h.put b (some (.arr cs' ty)))):=rfl
noncomputable def jmm (h:Hp) (n:Nat) (agg:Bool) (v:AV):Option AV:=je6 v (fun b off=>ob (rd h b off n) (fun cs=>je7 agg cs)) (fun cs=>ob (jbx n cs) (fun cs=>je7 agg cs))
theorem qd7 {α γ:Type} {x:Option α} {f:α->Option β} {g:β->Option γ}:ob (ob x f) g=ob x (fun a=>ob (f a) g):=by cases x<;>rfl
theorem j0e {n:Nat} {agg:Bool} {x:Od}:jd8 st fr h (.load n agg x)=ob (ev st fr x) (fun v=>ob (jmm h n agg v) (fun v=>ok v h)):=by
 show ob (ev st fr x) (fun v=>je6 v (fun b off=>ob (rd h b off n) (fun cs=>ob (je7 agg cs) (fun v=>ok v h))) (fun cs=>ob (jbx n cs) (fun cs=>ob (je7 agg cs) (fun v=>ok v h))))=_
 congr 1
 funext v
 cases v with
 | s v=>cases v<;>first | rfl | (show ob _ _=ob (ob _ _) _;rw [qd7])
 | _=>rfl
noncomputable def j49 (h:Hp) (n:Nat) (p v:AV):R:=jrr p (fun b off=>cel v (fun cs=>oif (Nat.beq (jc1 cs) n) (ob (wr h b off cs) (fun h=>ok .undef h)) none))
theorem j90 {b o:Nat} {v:SV} (k:Ok h):j49 h 1 (.s (.ptr b o)) (.s v)=ob (wrB h b (h.get b) o [v]) (fun h=>ok .undef h):=by
 show ob (wr h b o [v]) _=_
 rw [qhp k]
theorem j2n {n b o:Nat} {cs:List SV} (k:Ok h) (hn:cs.length=n):j49 h n (.s (.ptr b o)) (.agg cs)=ob (wrB h b (h.get b) o cs) (fun h=>ok .undef h):=by
 show oif (Nat.beq (jc1 cs) n) (ob (wr h b o cs) _) none=_
 rw [qhp k,jbd,hn,Nat.beq_refl];rfl
theorem jg6 {e:TypeId} {z:List SV} (k:Ok h):jd8 st fr h (.new e z)=some (.s (.ptr h.next 0),h.push (.arr z e)):=by
 show nw h z e (fun n h=>ok (.s (.ptr n 0)) h)=_
 rw [jvp k];rfl
theorem qd8 {e:TypeId} {x:Od} (k:Ok h):jd8 st fr h (.box e x)=ob (ev st fr x) (fun v=>cel v (fun cs=>some (.s (.ptr h.next 0),h.push (.arr cs e)))):=by
 show ob (ev st fr x) (fun v=>cel v (fun cs=>nw h cs e (fun n h=>ok (.s (.ptr n 0)) h)))=_
 congr 1;funext v;congr 1;funext cs;rw [jvp k];rfl
theorem j2o {e:TypeId} {size:Nat} {z:List SV} {len:Nat} {ps:List (Nat×Nat×Od)} (k:Ok h):jd8 st fr h (.bslice e size z len ps)=ob (fill st fr ps z) (fun cs=>some (.s (.slice h.next 0 len len true size),h.push (.arr cs e))):=by
 show ob (fill st fr ps z) (fun cs=>nw h cs e (fun n h=>ok (.s (.slice n 0 len len true size)) h))=_
 congr 1;funext cs;rw [jvp k];rfl
noncomputable def qje (h:Hp) (e:TypeId) (size bytes:Nat) (z:List SV) (l c:AV):R:=qa8 l (fun m=>qa8 c (fun k=>oif (Nat.ble m k) (oif (Nat.ble (Nat.mul bytes k) 1000000000) (oif (Nat.ble k 1000000000) (nw h (rep z k) e (fun b h=>ok (.s (.slice b 0 m k true size)) h)) none) none) none))
theorem j5a {e:TypeId} {size bytes:Nat} {z:List SV} {m:Nat} (k:Ok h) (h1:bytes*m<=1000000000) (h2:m<=1000000000):qje h e size bytes z (vi m) (vi m)=some (.s (.slice h.next 0 m m true size),h.push (.arr (rep z m) e)):=by
 show oif (Nat.ble m m) (oif (Nat.ble (Nat.mul bytes m) 1000000000) (oif (Nat.ble m 1000000000) (nw h (rep z m) e _) none) none) none=_
 rw [jvp k,jil (Nat.le_refl m),jil h2,show Nat.ble (Nat.mul bytes m) 1000000000=true from jil h1];rfl
noncomputable def jw3 (size:Nat) (v w:AV):Option AV:=jc7 v none (fun b off len _ _ _=>jiy w len (fun m=>some (.s (.ptr b (Nat.add off (Nat.mul m size))))))
 (fun rows=>jiy w (jc1 rows) (fun m=>ob (jeb rows m) (fun row=>oif (Nat.beq (jc1 row) size) (some (.s (.cp row))) none))) none
theorem jh5 {m n:Nat} {f:Nat->Option β} (hm:m<n):jiy (vi (m:Int)) n f=f m:=by
 show oif (Nat.ble (Nat.succ m) n) (f m) none=_
 rw [jil (show Nat.succ m<=n from hm)];rfl
theorem jbf {size b off len mc sz m:Nat} {ex:Bool} (hm:m<len):jw3 size (.s (.slice b off len mc ex sz)) (vi (m:Int))=some (.s (.ptr b (off+m*size))):=jh5 (f:=fun m=>some (AV.s (.ptr b (Nat.add off (Nat.mul m size))))) hm
theorem jcn {size b off len mc sz:Nat} {ex:Bool} (hm:0<len):jw3 size (.s (.slice b off len mc ex sz)) (vi 0)=some (.s (.ptr b off)):=by
 have:=jh5 (f:=fun m=>some (AV.s (.ptr b (Nat.add off (Nat.mul m size))))) hm
 refine this.trans ?_
 show some (AV.s (.ptr b (off+0*size)))=_
 rw [Nat.zero_mul,Nat.add_zero]
theorem j0f {size m:Nat} {rows:List (List SV)} {row:List SV} (hr:rows[m]?=some row) (hl:row.length=size):jw3 size (.s (.lst rows)) (vi (m:Int))=some (.s (.cp row)):=by
 have hm:m<rows.length:=by
  rcases Nat.lt_or_ge m rows.length with h | h
  ·exact h
  ·rw [List.getElem?_eq_none h] at hr;cases hr
 have:=jh5 (f:=fun m=>ob (jeb rows m) (fun row=>oif (Nat.beq (jc1 row) size) (some (AV.s (.cp row))) none)) (show m<jc1 rows by rw [jbd];exact hm)
 refine this.trans ?_
 rw [jci,hr]
 show oif (Nat.beq (jc1 row) size) _ none=_
 rw [jbd,hl,Nat.beq_refl];rfl
noncomputable def qbn (n size:Nat) (v w:AV):Option AV:=je6 v (fun b off=>jiy w n (fun m=>some (.s (.ptr b (Nat.add off (Nat.mul m size)))))) (fun cs=>jiy w n (fun m=>some (.s (.cp (jcb (Nat.mul m size) cs)))))
theorem jcv {n size b off m:Nat} (hm:m<n):qbn n size (.s (.ptr b off)) (vi (m:Int))=some (.s (.ptr b (off+m*size))):=jh5 (f:=fun m=>some (AV.s (.ptr b (Nat.add off (Nat.mul m size))))) hm
theorem jff {n size m:Nat} {cs:List SV} (hm:m<n):qbn n size (.s (.cp cs)) (vi (m:Int))=some (.s (.cp (jcb (m*size) cs))):=jh5 (f:=fun m=>some (AV.s (.cp (jcb (Nat.mul m size) cs)))) hm
noncomputable def qlb (h:Hp) (e:TypeId) (size bytes b n m:Nat) (x:Option AB) (new:List SV):R :=
 jjq bytes (Nat.add n m) (ob x (fun x=>AB.casesOn (motive:=fun _=>R) x (fun cs ty =>
  ob (jbx (Nat.mul n size) (jcb 0 cs)) (fun old=>(oif (Nat.ble h.lo b) (oif (Nat.beq ty e) (nw (h.put b none) (jhh old new) e (fun k h=>ok (.s (.slice k 0 (Nat.add n m) (Nat.add n m) false size)) h)) none) none))) (fun _ _=>none)))
noncomputable def jjk (h:Hp) (e:TypeId) (size bytes:Nat) (v w:AV):R:=jc7 w (j8w v (ok v h)) (fun b' off' m _ _ _=>ob (rd h b' off' (Nat.mul m size)) (fun new=>j10 h e size bytes m v new))
 (fun rows=>ob (j1z size rows) (fun new=>j10 h e size bytes (jc1 rows) v new)) (j8w v (ok v h))
theorem jiu {e:TypeId} {size bytes b' o' m mc' sz':Nat} {ex':Bool}:jjk h e size bytes (.s .nilSlice) (.s (.slice b' o' m mc' ex' sz'))=ob (rdB (h.get b') o' (m*size)) (fun new=>Nat.casesOn (motive:=fun _=>R) m (some (.s .nilSlice,h)) (fun _=>jjq bytes m (nw h new e (fun k h=>ok (.s (.slice k 0 m m false size)) h)))):=rfl
theorem jke {bytes n:Nat} {x:R} (h1:n*bytes<=1000000000) (h2:n<=1000000000):jjq bytes n x=x:=by
 show oif (Nat.ble (Nat.mul n bytes) 1000000000) (oif (Nat.ble n 1000000000) x none) none=_
 rw [show Nat.ble (Nat.mul n bytes) 1000000000=true from jil h1,jil h2];rfl
theorem jmn {e:TypeId} {size bytes b n b' o' m mc' sz':Nat} {ex':Bool} (hm:1<=m):jjk h e size bytes (.s (.slice b 0 n n false size)) (.s (.slice b' o' m mc' ex' sz'))=ob (rdB (h.get b') o' (m*size)) (fun new=>qlb h e size bytes b n m (h.get b) new):=by
 show ob (rdB (h.get b') o' (m*size)) (fun new=>oif (Nat.beq size size) (oif (Nat.ble (Nat.add n m) n) _ (jjq bytes (Nat.add n m) (jrt h e size b 0 n m false new))) none)=_
 congr 1
 funext new
 have e1:Nat.ble (Nat.add n m) n=false:=by
  cases e:Nat.ble (Nat.add n m) n with
  | false=>rfl
  | true=>rw [jup] at e;have:n+m<=n:=e;omega
 rw [Nat.beq_refl]
 show oif (Nat.ble (Nat.add n m) n) _ _=_
 rw [e1]
 rfl
theorem qd9 {e:TypeId} {size bytes b n m:Nat} {cs new:List SV} (k:Ok h) (hc:cs.length=n*size) (h1:(n+m)*bytes<=1000000000) (h2:n+m<=1000000000) :
 qlb h e size bytes b n m (some (.arr cs e)) new=some (.s (.slice h.next 0 (n+m) (n+m) false size),(h.put b none).push (.arr (cs++new) e)):=by
 show jjq bytes (n+m) (ob (jbx (n*size) cs) (fun old=>oif (Nat.ble h.lo b) (oif (Nat.beq e e) (nw (h.put b none) (jhh old new) e _) none) none))=_
 rw [jke h1 h2,(ja1 _).2 ⟨Nat.le_of_eq hc.symm,rfl⟩,←hc,List.take_length]
 show oif (Nat.ble h.lo b) (oif (Nat.beq e e) (nw (h.put b none) (jhh cs new) e _) none) none=_
 rw [k.lo,Nat.beq_refl,jvp (jad k),jdm,Hp.next_put]
 rfl
noncomputable def qly (v:AV):Option (Bool×List SV):=AV.casesOn (motive:=fun _=>Option (Bool×List SV)) v (fun s=>some (false,[s])) (fun l=>some (true,l)) (fun _=>none) none none
theorem jlp:jgi fr h []=some []:=rfl
theorem jfg {r:IR} {l:List IR}:jgi fr h (r::l)=ob (jml fr h r) (fun v=>ob (jgi fr h l) (fun x=>some (v::x))):=rfl
theorem jlq:jcf (.mk fr h) []=some (.tup [],h):=rfl
theorem j2p {r:IR}:jcf (.mk fr h) [r]=ob (jml fr h r) (fun p=>ob (je7 p.1 p.2) (fun v=>some (v,h))):=by
 show ob (ob (jml fr h r) (fun v=>ob (some []) (fun x=>some (v::x)))) (fun vs=>List.casesOn (motive:=fun _=>R) vs (ok (.tup []) h) (fun p r=>List.casesOn (motive:=fun _=>R) r (ob (je7 p.1 p.2) (fun v=>ok v h)) (fun _ _=>ok (.tup vs) h)))=_
 cases jml fr h r<;>rfl
theorem j2q {r r':IR} {l:List IR}:jcf (.mk fr h) (r::r'::l)=ob (jgi fr h (r::r'::l)) (fun vs=>some (.tup vs,h)):=by
 show ob (jgi fr h (r::r'::l)) (fun vs=>List.casesOn (motive:=fun _=>R) vs (ok (.tup []) h) (fun p r=>List.casesOn (motive:=fun _=>R) r (ob (je7 p.1 p.2) (fun v=>ok v h)) (fun _ _=>ok (.tup vs) h)))=_
 rw [jfg,jfg]
 cases jml fr h r with
 | none=>rfl
 | some a=>cases jml fr h r' with
  | none=>rfl
  | some b=>cases jgi fr h l<;>rfl
theorem qea {v:AV}:ok v h=some (v,h):=rfl
theorem jx2 {es:List Ent} {hid:List (Nat×Nat)}:sel es [] hid=some hid:=rfl
theorem jst {es:List Ent} {j:Nat} {js:List Nat} {hid:List (Nat×Nat)}:sel es (j::js) hid=ob (jeb es j) (fun e=>ob (sel es js hid) (fun l=>Ent.casesOn (motive:=fun _=>Option (List (Nat×Nat))) e (fun iv _=>some (iv++l)))):=by
 show ob (jeb es j) (fun e=>ob (sel es js hid) (fun l=>Ent.casesOn (motive:=fun _=>Option (List (Nat×Nat))) e (fun iv _=>some (jhh iv l))))=_
 simp only [jdm]
def fpV:AV->List Nat
 | .s (.ptr b _)=>[b]
 | _=>[]
theorem jx3 {b o:Nat}:fpV (.s (.ptr b o))=[b]:=rfl
theorem j5b {cs:List SV}:fpV (.s (.cp cs))=[]:=rfl
theorem jvq {es:List Ent} {dst:Option Nat} {n:Nat} {agg:Bool} {x:Od} {js:List Nat} {l:List (IOper×Option (List Nat))}:WD F ((.mk dst (.a (.load n agg x)) none,some js)::l) st es fr h Q=obP (sel es js h.hid) (fun hid'=>obP (ev st fr x) (fun p=>obP (jmm (h.hide h.next hid') n agg p) (fun v=>WD F l (v::st) (.mk [] (some (fpV p))::es) (jcc fr dst v) h Q))):=by
 cases h with
 | mk k t lo hid =>
 rw [jxq (x:=ob (sel es js hid) (fun hid'=>ob (ev st fr x) (fun p=>ob (jmm (.mk k t k hid') n agg p) (fun v=>some (DR.mk v (.mk k t lo hid) (.mk [] (some (fpV p)))))))) (fun cl=>?_)]
 ·refine propext ⟨fun ⟨p,h1,h2⟩=>?_,fun ⟨hid',h0,q,h1,v,h2,h3⟩=>⟨.mk v (.mk k t lo hid) (.mk [] (some (fpV q))),jab.2 ⟨hid',h0,jab.2 ⟨q,h1,jab.2 ⟨v,h2,rfl⟩⟩⟩,h3⟩⟩
  obtain ⟨hid',h3,h4⟩:=jab.1 h1
  obtain ⟨q,h5,h6⟩:=jab.1 h4
  obtain ⟨v,h7,h8⟩:=jab.1 h6
  cases h8
  exact ⟨hid',h3,q,h5,v,h7,h2⟩
 ·show jl4 cl st fr es (.mk k t lo hid) (.a (.load n agg x)) js=_
  show ob (sel es js hid) (fun hid'=>Cls.casesOn (motive:=fun _=>Option DR) (jrv (ob (ev st fr x) (fun v=>je6 v (fun b _=>some (Cls.load b)) (fun _=>some .quiet))) (fun c=>c))
   (jko cl st fr k t lo k hid hid' (.a (.load n agg x)) (fun n'=>.mk [(k,n')] (some [])))
   (fun x'=>jko cl st fr k t lo k hid hid' (.a (.load n agg x)) (fun _=>.mk [] (some [x'])))
   (fun b=>oif (jfu es js b) (oif (Nat.ble lo b) (ob (Hp.get (.mk k t lo hid') b) (fun _=>jko cl st fr k t lo lo hid hid' (.a (.load n agg x)) (fun n'=>.mk [(b,Nat.succ b),(k,n')] none))) none) none)
   (jko cl st fr k t lo k hid hid' (.a (.load n agg x)) (fun _=>.mk [] (some [])))
   (jko cl st fr k t lo k hid hid' (.a (.load n agg x)) (fun n'=>.mk [(k,n')] none)))=_
  congr 1
  funext hid'
  have key:∀ e:Nat->Ent,jko cl st fr k t lo k hid hid' (.a (.load n agg x)) e=ob (ev st fr x) (fun p=>ob (jmm (.mk k t k hid') n agg p) (fun v=>some (DR.mk v (.mk k t lo hid) (e k)))):=fun e=>by
   show ob (aop cl st fr (.mk k t k hid') (.load n agg x)) _=_
   rw [ji5 (show AO.calls (.load n agg x)=false from rfl),j0e]
   cases ev st fr x with
   | none=>rfl
   | some p =>
    show ob (ob (jmm (.mk k t k hid') n agg p) _) _=ob (jmm (.mk k t k hid') n agg p) _
    cases jmm (.mk k t k hid') n agg p<;>rfl
  have k1:=key (fun n'=>.mk [(k,n')] none)
  have k3:=key (fun _=>.mk [] (some []))
  have k2:=fun b=>key (fun _=>.mk [] (some [b]))
  cases hx:ev st fr x with
  | none =>
   rw [hx] at k1
   exact k1
  | some p =>
   rw [hx] at k1 k3
   simp only [hx] at k2
   cases p with
   | s p =>
    cases p with
    | ptr b o=>exact k2 b
    | cp cs=>exact k3
    | _=>exact k1
   | _=>exact k1
theorem jqc {es:List Ent} {dst:Option Nat} {e:TypeId} {size:Nat} {z:List SV} {len:Nat} {ps:List (Nat×Nat×Od)} {js:List Nat} {l:List (IOper×Option (List Nat))}:WD F ((.mk dst (.a (.bslice e size z len ps)) none,some js)::l) st es fr h Q=obP (sel es js h.hid) (fun hid'=>obP (fill st fr ps z) (fun cs=>jaq hid' h.next=false/\WD F l (.s (.slice h.next 0 len len true size)::st) (.mk [(h.next,h.next+1)] (some [])::es) (jcc fr dst (.s (.slice h.next 0 len len true size))) (h.push (.arr cs e)) Q)):=by
 cases h with
 | mk k t lo hid =>
 rw [jxq (x:=ob (sel es js hid) (fun hid'=>ob (fill st fr ps z) (fun cs=>oif (jaq hid' k) none (some (DR.mk (.s (.slice k 0 len len true size)) ((Hp.mk k t lo hid).push (.arr cs e)) (.mk [(k,k+1)] (some []))))))) (fun cl=>?_)]
 ·refine propext ⟨fun ⟨p,h1,h2⟩=>?_,fun ⟨hid',h0,cs,h1,h2,h3⟩=>⟨DR.mk (.s (.slice k 0 len len true size)) ((Hp.mk k t lo hid).push (.arr cs e)) (.mk [(k,k+1)] (some [])),jab.2 ⟨hid',h0,jab.2 ⟨cs,h1,?_⟩⟩,h3⟩⟩
  ·obtain ⟨hid',h3,h4⟩:=jab.1 h1
   obtain ⟨cs,h5,h6⟩:=jab.1 h4
   rw [jas] at h6
   split at h6
   ·cases h6
   ·rename_i h7
    cases h6
    exact ⟨hid',h3,cs,h5,Bool.eq_false_iff.2 h7,h2⟩
  ·have h2':jaq hid' k=false:=h2
   rw [h2'];rfl
 ·show jl4 cl st fr es (.mk k t lo hid) (.a (.bslice e size z len ps)) js=_
  show ob (sel es js hid) (fun hid'=>ob (ob (fill st fr ps z) (fun cs=>oif (jaq hid' k) none (ok (.s (.slice k 0 len len true size)) (Hp.mk (Nat.succ k) (t.put (Nat.succ k) k (some (.arr cs e))) k hid')))) (fun p=>Hp.casesOn (motive:=fun _=>Option DR) p.2 (fun n' t' _ _=>some (.mk p.1 (.mk n' t' lo hid) (.mk [(k,n')] (some []))))))=_
  congr 1
  funext hid'
  cases fill st fr ps z with
  | none=>rfl
  | some cs =>
   show ob (oif (jaq hid' k) none _) _=oif (jaq hid' k) none _
   cases jaq hid' k<;>rfl
end
section
variable {F:Fns} {s:St} {st fr:List AV} {h h':Hp} {Q:Ex->St->Prop} {l:List IOper} {dst:Option Nat} {v w:AV} {m:List (IOper×Option (List Nat))} {es:List Ent}
def zpO (F:Fns) (x:Option AV) (dst:Option Nat) (l:List IOper) (st fr:List AV) (h:Hp) (Q:Ex->St->Prop):Prop:=obP x (fun v=>WO F l (v::st) (jcc fr dst v) h Q)
theorem jsu:zpO F (some v) dst l st fr h Q=WO F l (v::st) (jcc fr dst v) h Q:=jb1
def zmO (F:Fns) (x:R) (dst:Option Nat) (l:List IOper) (st fr:List AV) (Q:Ex->St->Prop):Prop:=obP x (fun p=>WO F l (p.1::st) (jcc fr dst p.1) p.2 Q)
theorem jsv:zmO F (some (v,h)) dst l st fr Q=WO F l (v::st) (jcc fr dst v) h Q:=jb1
def qeb (F:Fns) (dst:Option Nat) (l:List IOper) (st fr:List AV) (Q:Ex->St->Prop) (v:AV) (h:Hp):Prop:=WO F l (v::st) (jcc fr dst v) h Q
theorem jsw:qeb F dst l st fr Q v h=WO F l (v::st) (jcc fr dst v) h Q:=rfl
def zkO (F:Fns) (x:Option (List AV)) (f:FuncId) (dst:Option Nat) (l:List IOper) (st fr:List AV) (h:Hp) (Q:Ex->St->Prop):Prop:=obP x (fun vs=>WC F f vs h (qeb F dst l st fr Q))
theorem jsx {vs:List AV} {f:FuncId}:zkO F (some vs) f dst l st fr h Q=WC F f vs h (qeb F dst l st fr Q):=jb1
def zgO (F:Fns) (x:Option AV) (t:Bool) (dst:Option Nat) (op:IOp) (l:List IOper) (st fr:List AV) (h:Hp) (Q:Ex->St->Prop):Prop:=gP x t (WO F (.mk dst op none::l) st fr h Q) (WO F l (.undef::st) (jcc fr dst .undef) h Q)
theorem jsy {b t:Bool} {op:IOp}:zgO F (some (.s (.bool b))) t dst op l st fr h Q=if b=t then WO F (.mk dst op none::l) st fr h Q else WO F l (.undef::st) (jcc fr dst .undef) h Q:=j4v
theorem jo0 {t:Bool} {op:IOp}:zgO F (some .undef) t dst op l st fr h Q=WO F l (.undef::st) (jcc fr dst .undef) h Q:=j0d
def zcO (F:Fns) (x:Option AV) (a b:IC) (fr:List AV) (h:Hp) (Q:Ex->St->Prop):Prop:=qj2 x (W F a (.mk fr h) Q) (W F b (.mk fr h) Q)
theorem jsz {b:Bool} {x y:IC}:zcO F (some (.s (.bool b))) x y fr h Q=if b=true then W F x (.mk fr h) Q else W F y (.mk fr h) Q:=j4q
theorem jx4 {c:Od} {x y:IC}:W F (.cond c x y) (.mk fr h) Q=zcO F (ev [] fr c) x y fr h Q:=qhn
theorem jx5 {o:PO}:WO F (.mk dst (.p o) none::l) st fr h Q=zpO F (pop st fr o) dst l st fr h Q:=qdy
theorem jx6 {f:FuncId} {as:List Od}:WO F (.mk dst (.a (.call f as)) none::l) st fr h Q=zkO F (evs st fr as) f dst l st fr h Q:=qdz
theorem js0 {op:IOp} {i:Nat} {t:Bool}:WO F (.mk dst op (some (i,t))::l) st fr h Q=zgO F (jeb st i) t dst op l st fr h Q:=j9u
theorem j0g {x:Od} {as:List Od} {f:FuncId} {caps:List (Nat×Nat)} (hx:ev st fr x=some (.s (.func f caps))):WO F (.mk dst (.a (.callv x as)) none::l) st fr h Q=zkO F (ob (evs st fr as) (fun vs=>some (vs++jgg caps))) f dst l st fr h Q:=by
 rw [j9t]
 refine propext ⟨fun ⟨g,cs,h1,vs,h2,h3⟩=>?_,fun ⟨vs,h1,h2⟩=>?_⟩
 ·rw [hx] at h1;cases h1
  exact ⟨_,jab.2 ⟨vs,h2,rfl⟩,h3⟩
 ·obtain ⟨us,h3,h4⟩:=jab.1 h1
  cases h4
  exact ⟨f,caps,hx,us,h3,h2⟩
def zpD (F:Fns) (x:Option AV) (e:Ent) (dst:Option Nat) (m:List (IOper×Option (List Nat))) (st:List AV) (es:List Ent) (fr:List AV) (h:Hp) (Q:Ex->St->Prop):Prop:=obP x (fun v=>WD F m (v::st) (e::es) (jcc fr dst v) h Q)
theorem js1 {e:Ent}:zpD F (some v) e dst m st es fr h Q=WD F m (v::st) (e::es) (jcc fr dst v) h Q:=jb1
def zmD (F:Fns) (x:R) (dst:Option Nat) (m:List (IOper×Option (List Nat))) (st:List AV) (es:List Ent) (fr:List AV) (Q:Ex->St->Prop):Prop:=obP x (fun p=>WD F m (p.1::st) (.mk [] (some [])::es) (jcc fr dst p.1) p.2 Q)
theorem js2:zmD F (some (v,h)) dst m st es fr Q=WD F m (v::st) (.mk [] (some [])::es) (jcc fr dst v) h Q:=jb1
def qec (F:Fns) (dst:Option Nat) (m:List (IOper×Option (List Nat))) (st:List AV) (es:List Ent) (fr:List AV) (Q:Ex->St->Prop) (v:AV) (h:Hp):Prop:=WD F m (v::st) (.mk [] (some [])::es) (jcc fr dst v) h Q
theorem js3:qec F dst m st es fr Q v h=WD F m (v::st) (.mk [] (some [])::es) (jcc fr dst v) h Q:=rfl
def zkD (F:Fns) (x:Option (List AV)) (f:FuncId) (dst:Option Nat) (m:List (IOper×Option (List Nat))) (st:List AV) (es:List Ent) (fr:List AV) (h:Hp) (Q:Ex->St->Prop):Prop:=obP x (fun vs=>WC F f vs h (qec F dst m st es fr Q))
theorem js4 {vs:List AV} {f:FuncId}:zkD F (some vs) f dst m st es fr h Q=WC F f vs h (qec F dst m st es fr Q):=jb1
def zgD (F:Fns) (x:Option AV) (t:Bool) (dst:Option Nat) (op:IOp) (o:Option (List Nat)) (m:List (IOper×Option (List Nat))) (st:List AV) (es:List Ent) (fr:List AV) (h:Hp) (Q:Ex->St->Prop):Prop:=gP x t (WD F ((.mk dst op none,o)::m) st es fr h Q) (WD F m (.undef::st) (.mk [] (some [])::es) (jcc fr dst .undef) h Q)
theorem js5 {b t:Bool} {op:IOp} {o:Option (List Nat)}:zgD F (some (.s (.bool b))) t dst op o m st es fr h Q=if b=t then WD F ((.mk dst op none,o)::m) st es fr h Q else WD F m (.undef::st) (.mk [] (some [])::es) (jcc fr dst .undef) h Q:=j4v
theorem jo1 {t:Bool} {op:IOp} {o:Option (List Nat)}:zgD F (some .undef) t dst op o m st es fr h Q=WD F m (.undef::st) (.mk [] (some [])::es) (jcc fr dst .undef) h Q:=j0d
theorem jx7 {o:PO}:WD F ((.mk dst (.p o) none,none)::m) st es fr h Q=zpD F (pop st fr o) (.mk [] (some [])) dst m st es fr h Q:=qd0
theorem jx8 {f:FuncId} {as:List Od}:WD F ((.mk dst (.a (.call f as)) none,none)::m) st es fr h Q=zkD F (evs st fr as) f dst m st es fr h Q:=qd1
theorem js6 {op:IOp} {i:Nat} {t:Bool} {o:Option (List Nat)}:WD F ((.mk dst op (some (i,t)),o)::m) st es fr h Q=zgD F (jeb st i) t dst op o m st es fr h Q:=j9v
def qlc (F:Fns) (x:Option (List (Nat×Nat))) (o:Option AV) (dst:Option Nat) (m:List (IOper×Option (List Nat))) (st:List AV) (es:List Ent) (fr:List AV) (h:Hp) (Q:Ex->St->Prop):Prop:=obP x (fun _=>zpD F o (.mk [(h.next,h.next)] (some [])) dst m st es fr h Q)
theorem jo2 {x:List (Nat×Nat)} {o:Option AV}:qlc F (some x) o dst m st es fr h Q=zpD F o (.mk [(h.next,h.next)] (some [])) dst m st es fr h Q:=jb1
theorem jh6 {o:PO} {js:List Nat}:WD F ((.mk dst (.p o) none,some js)::m) st es fr h Q=qlc F (sel es js h.hid) (pop st fr o) dst m st es fr h Q:=jvl
def qj8 (F:Fns) (x:Option (List (Nat×Nat))) (n:Nat) (agg:Bool) (p:Option AV) (dst:Option Nat) (m:List (IOper×Option (List Nat))) (st:List AV) (es:List Ent) (fr:List AV) (h:Hp) (Q:Ex->St->Prop):Prop:=obP x (fun hid'=>obP p (fun p=>zpD F (jmm (h.hide h.next hid') n agg p) (.mk [] (some (fpV p))) dst m st es fr h Q))
theorem jo3 {x:List (Nat×Nat)} {n:Nat} {agg:Bool}:qj8 F (some x) n agg (some w) dst m st es fr h Q=zpD F (jmm (h.hide h.next x) n agg w) (.mk [] (some (fpV w))) dst m st es fr h Q:=by
 unfold qj8;rw [jb1,jb1]
theorem jh7 {n:Nat} {agg:Bool} {x:Od} {js:List Nat}:WD F ((.mk dst (.a (.load n agg x)) none,some js)::m) st es fr h Q=qj8 F (sel es js h.hid) n agg (ev st fr x) dst m st es fr h Q:=jvq
def qj9 (F:Fns) (x:Option (List (Nat×Nat))) (cs:Option (List SV)) (e:TypeId) (size len:Nat) (dst:Option Nat) (m:List (IOper×Option (List Nat))) (st:List AV) (es:List Ent) (fr:List AV) (h:Hp) (Q:Ex->St->Prop):Prop:=obP x (fun hid'=>obP cs (fun cs=>jaq hid' h.next=false/\WD F m (.s (.slice h.next 0 len len true size)::st) (.mk [(h.next,h.next+1)] (some [])::es) (jcc fr dst (.s (.slice h.next 0 len len true size))) (h.push (.arr cs e)) Q))
theorem jo4 {x:List (Nat×Nat)} {cs:List SV} {e:TypeId} {size len:Nat} (hx:jaq x h.next=false):qj9 F (some x) (some cs) e size len dst m st es fr h Q=WD F m (.s (.slice h.next 0 len len true size)::st) (.mk [(h.next,h.next+1)] (some [])::es) (jcc fr dst (.s (.slice h.next 0 len len true size))) (h.push (.arr cs e)) Q:=by
 unfold qj9;rw [jb1,jb1];exact propext ⟨fun h=>h.2,fun h=>⟨hx,h⟩⟩
theorem jge {e:TypeId} {size:Nat} {z:List SV} {len:Nat} {ps:List (Nat×Nat×Od)} {js:List Nat}:WD F ((.mk dst (.a (.bslice e size z len ps)) none,some js)::m) st es fr h Q=qj9 F (sel es js h.hid) (fill st fr ps z) e size len dst m st es fr h Q:=jqc
def qlz (F:Fns) (x:Option (List (Nat×Nat))) (u:AV) (dst:Option Nat) (m:List (IOper×Option (List Nat))) (st:List AV) (es:List Ent) (fr:List AV) (h:Hp) (Q:Ex->St->Prop):Prop:=obP x (fun _=>WD F m (u::st) (.mk [(h.next,h.next)] none::es) (jcc fr dst u) h Q)
theorem jo5 {x:List (Nat×Nat)} {u:AV}:qlz F (some x) u dst m st es fr h Q=WD F m (u::st) (.mk [(h.next,h.next)] none::es) (jcc fr dst u) h Q:=jb1
theorem j5c {e:TypeId} {z:List SV}:WO F (.mk dst (.a (.new e z)) none::l) st fr h Q=zmO F (jd8 st fr h (.new e z)) dst l st fr Q:=jf3 rfl
theorem j5d {e:TypeId} {z:List SV}:WD F ((.mk dst (.a (.new e z)) none,none)::m) st es fr h Q=zmD F (jd8 st fr h (.new e z)) dst m st es fr Q:=jf4 rfl
theorem j5e {e:TypeId} {x:Od}:WO F (.mk dst (.a (.box e x)) none::l) st fr h Q=zmO F (jd8 st fr h (.box e x)) dst l st fr Q:=jf3 rfl
theorem j5f {e:TypeId} {x:Od}:WD F ((.mk dst (.a (.box e x)) none,none)::m) st es fr h Q=zmD F (jd8 st fr h (.box e x)) dst m st es fr Q:=jf4 rfl
theorem jo6 {e:TypeId} {size:Nat} {z:List SV} {len:Nat} {ps:List (Nat×Nat×Od)}:WO F (.mk dst (.a (.bslice e size z len ps)) none::l) st fr h Q=zmO F (jd8 st fr h (.bslice e size z len ps)) dst l st fr Q:=jf3 rfl
theorem jo7 {e:TypeId} {size:Nat} {z:List SV} {len:Nat} {ps:List (Nat×Nat×Od)}:WD F ((.mk dst (.a (.bslice e size z len ps)) none,none)::m) st es fr h Q=zmD F (jd8 st fr h (.bslice e size z len ps)) dst m st es fr Q:=jf4 rfl
theorem jlr {e:TypeId} {size bytes:Nat} {z:List SV} {x y:Od}:WO F (.mk dst (.a (.mkslice e size bytes z x y)) none::l) st fr h Q=zmO F (jd8 st fr h (.mkslice e size bytes z x y)) dst l st fr Q:=jf3 rfl
theorem jls {e:TypeId} {size bytes:Nat} {z:List SV} {x y:Od}:WD F ((.mk dst (.a (.mkslice e size bytes z x y)) none,none)::m) st es fr h Q=zmD F (jd8 st fr h (.mkslice e size bytes z x y)) dst m st es fr Q:=jf4 rfl
theorem jx9 {n:Nat} {agg:Bool} {x:Od}:WO F (.mk dst (.a (.load n agg x)) none::l) st fr h Q=zmO F (jd8 st fr h (.load n agg x)) dst l st fr Q:=jf3 rfl
theorem jya {n:Nat} {agg:Bool} {x:Od}:WD F ((.mk dst (.a (.load n agg x)) none,none)::m) st es fr h Q=zmD F (jd8 st fr h (.load n agg x)) dst m st es fr Q:=jf4 rfl
theorem js7 {n:Nat} {x y:Od}:WO F (.mk dst (.a (.store n x y)) none::l) st fr h Q=zmO F (jd8 st fr h (.store n x y)) dst l st fr Q:=jf3 rfl
theorem js8 {n:Nat} {x y:Od}:WD F ((.mk dst (.a (.store n x y)) none,none)::m) st es fr h Q=zmD F (jd8 st fr h (.store n x y)) dst m st es fr Q:=jf4 rfl
theorem j5g {e:TypeId} {size bytes:Nat} {x y:Od}:WO F (.mk dst (.a (.app e size bytes x y)) none::l) st fr h Q=zmO F (jd8 st fr h (.app e size bytes x y)) dst l st fr Q:=jf3 rfl
theorem j5h {e:TypeId} {size bytes:Nat} {x y:Od}:WD F ((.mk dst (.a (.app e size bytes x y)) none,none)::m) st es fr h Q=zmD F (jd8 st fr h (.app e size bytes x y)) dst m st es fr Q:=jf4 rfl
theorem jyb {size:Nat} {x y:Od}:WO F (.mk dst (.a (.copy size x y)) none::l) st fr h Q=zmO F (jd8 st fr h (.copy size x y)) dst l st fr Q:=jf3 rfl
theorem jyc {size:Nat} {x y:Od}:WD F ((.mk dst (.a (.copy size x y)) none,none)::m) st es fr h Q=zmD F (jd8 st fr h (.copy size x y)) dst m st es fr Q:=jf4 rfl
theorem js9 {z:List SV} {x:Od}:WO F (.mk dst (.a (.clear z x)) none::l) st fr h Q=zmO F (jd8 st fr h (.clear z x)) dst l st fr Q:=jf3 rfl
theorem jta {z:List SV} {x:Od}:WD F ((.mk dst (.a (.clear z x)) none,none)::m) st es fr h Q=zmD F (jd8 st fr h (.clear z x)) dst m st es fr Q:=jf4 rfl
theorem jtb {va:Bool}:WO F (.mk dst (.a (.mkmap va)) none::l) st fr h Q=zmO F (jd8 st fr h (.mkmap va)) dst l st fr Q:=jf3 rfl
theorem jtc {va:Bool}:WD F ((.mk dst (.a (.mkmap va)) none,none)::m) st es fr h Q=zmD F (jd8 st fr h (.mkmap va)) dst m st es fr Q:=jf4 rfl
theorem jyd {sig:List Bool} {va:Bool} {z:List SV} {okf:Bool} {x k:Od}:WO F (.mk dst (.a (.look sig va z okf x k)) none::l) st fr h Q=zmO F (jd8 st fr h (.look sig va z okf x k)) dst l st fr Q:=jf3 rfl
theorem jye {sig:List Bool} {va:Bool} {z:List SV} {okf:Bool} {x k:Od}:WD F ((.mk dst (.a (.look sig va z okf x k)) none,none)::m) st es fr h Q=zmD F (jd8 st fr h (.look sig va z okf x k)) dst m st es fr Q:=jf4 rfl
theorem jyf {sig:List Bool} {va:Bool} {x k y:Od}:WO F (.mk dst (.a (.mupd sig va x k y)) none::l) st fr h Q=zmO F (jd8 st fr h (.mupd sig va x k y)) dst l st fr Q:=jf3 rfl
theorem jyg {sig:List Bool} {va:Bool} {x k y:Od}:WD F ((.mk dst (.a (.mupd sig va x k y)) none,none)::m) st es fr h Q=zmD F (jd8 st fr h (.mupd sig va x k y)) dst m st es fr Q:=jf4 rfl
theorem jo8 {n size:Nat} {x:Od}:WO F (.mk dst (.a (.slicea n size x)) none::l) st fr h Q=zmO F (jd8 st fr h (.slicea n size x)) dst l st fr Q:=jf3 rfl
theorem jo9 {n size:Nat} {x:Od}:WD F ((.mk dst (.a (.slicea n size x)) none,none)::m) st es fr h Q=zmD F (jd8 st fr h (.slicea n size x)) dst m st es fr Q:=jf4 rfl
theorem jyh {size:Nat} {x:Od}:WO F (.mk dst (.a (.boxc size x)) none::l) st fr h Q=zmO F (jd8 st fr h (.boxc size x)) dst l st fr Q:=jf3 rfl
theorem jyi {size:Nat} {x:Od}:WD F ((.mk dst (.a (.boxc size x)) none,none)::m) st es fr h Q=zmD F (jd8 st fr h (.boxc size x)) dst m st es fr Q:=jf4 rfl
noncomputable def qld (o:BO) (x y:Option AV):Option AV:=ob x (fun a=>ob y (fun b=>svc none a (fun a=>svc none b (fun b=>jej o a b))))
theorem j5i {o:BO} {x y:Od}:pop st fr (.bin o x y)=qld o (ev st fr x) (ev st fr y):=rfl
theorem jpa {o:BO} {a b:SV}:qld o (some (.s a)) (some (.s b))=jej o a b:=rfl
noncomputable def qka (off:Nat) (x:Option AV):Option AV:=ob x (fun v=>je6 v (fun b o=>some (.s (.ptr b (o+off)))) (fun cs=>some (.s (.cp (jcb off cs)))))
theorem j5j {off:Nat} {x:Od}:pop st fr (.fld off x)=qka off (ev st fr x):=rfl
theorem jtd {off b o:Nat}:qka off (some (.s (.ptr b o)))=some (.s (.ptr b (o+off))):=rfl
theorem jyj {off:Nat} {cs:List SV}:qka off (some (.s (.cp cs)))=some (.s (.cp (jcb off cs))):=rfl
noncomputable def qed (x:Option AV):Option AV:=ob x (fun v=>je6 v (fun b o=>some (.s (.ptr b o))) (fun cs=>some (.s (.cp cs))))
theorem jyk {x:Od}:pop st fr (.nchk x)=qed (ev st fr x):=rfl
theorem jpb {b o:Nat}:qed (some (.s (.ptr b o)))=some (.s (.ptr b o)):=rfl
theorem jte {cs:List SV}:qed (some (.s (.cp cs)))=some (.s (.cp cs)):=rfl
noncomputable def qle (x:Option AV):Option AV:=ob x jvo
theorem j5k {x:Od}:pop st fr (.len x)=qle (ev st fr x):=rfl
theorem jpc:qle (some v)=jvo v:=rfl
noncomputable def qlf (size:Nat) (x y:Option AV):Option AV:=ob x (fun v=>ob y (fun w=>jw3 size v w))
theorem j5l {size:Nat} {x i:Od}:pop st fr (.ixs size x i)=qlf size (ev st fr x) (ev st fr i):=rfl
theorem jpd {size:Nat}:qlf size (some v) (some w)=jw3 size v w:=rfl
noncomputable def qlg (n size:Nat) (x y:Option AV):Option AV:=ob x (fun v=>ob y (fun w=>qbn n size v w))
theorem j5m {n size:Nat} {x i:Od}:pop st fr (.ixa n size x i)=qlg n size (ev st fr x) (ev st fr i):=rfl
theorem jpe {n size:Nat}:qlg n size (some v) (some w)=qbn n size v w:=rfl
noncomputable def qhq (x:Option AV) (a b:Od) (st fr:List AV):Option AV:=ob x (fun v=>jix v (fun t=>ev st fr (oif t a b)))
theorem jyl {c a b:Od}:pop st fr (.pick c a b)=qhq (ev st fr c) a b st fr:=rfl
theorem jlt {t:Bool} {a b:Od}:qhq (some (.s (.bool t))) a b st fr=if t=true then ev st fr a else ev st fr b:=by cases t<;>rfl
noncomputable def qlh (i:Nat) (x:Option AV):Option AV:=ob x (fun v=>AV.casesOn (motive:=fun _=>Option AV) v (fun _=>none) (fun _=>none) (fun l=>ob (jeb l i) (fun p=>je7 p.1 p.2)) none none)
theorem j5n {i:Nat} {x:Od}:pop st fr (.ext i x)=qlh i (ev st fr x):=rfl
noncomputable def mk1 (p:Option (Bool×List SV)):Option AV:=ob p (fun p=>je7 p.1 p.2)
theorem jtf {a:Bool} {l:List SV}:mk1 (some (a,l))=je7 a l:=rfl
theorem jtg {i:Nat} {l:List (Bool×List SV)}:qlh i (some (.tup l))=mk1 (jeb l i):=rfl
noncomputable def ldR (h:Hp) (agg:Bool) (cs:Option (List SV)):R:=ob cs (fun cs=>ob (je7 agg cs) (fun v=>ok v h))
theorem qee {cs:List SV}:ldR h true (some cs)=some (.agg cs,h):=rfl
theorem qef {a:SV}:ldR h false (some [a])=some (.s a,h):=rfl
noncomputable def qeg (h:Hp) (n:Nat) (agg:Bool) (x:Option AV):R:=ob x (fun v=>ob (jmm h n agg v) (fun v=>ok v h))
theorem jym {n:Nat} {agg:Bool} {x:Od}:jd8 st fr h (.load n agg x)=qeg h n agg (ev st fr x):=j0e
theorem jpf {n b o:Nat} {agg:Bool}:qeg h n agg (some (.s (.ptr b o)))=ldR h agg (rdB (h.get b) o n):=by
 show ob (ob (rdB (h.get b) o n) _) _=_
 rw [qd7];rfl
theorem jth {n:Nat} {cs:List SV} {agg:Bool}:qeg h n agg (some (.s (.cp cs)))=ldR h agg (jbx n cs):=by
 show ob (ob (jbx n cs) _) _=_
 rw [qd7];rfl
noncomputable def j5o (h:Hp) (n:Nat) (x y:Option AV):R:=ob x (fun p=>ob y (fun v=>j49 h n p v))
theorem jti {n:Nat} {x v:Od}:jd8 st fr h (.store n x v)=j5o h n (ev st fr x) (ev st fr v):=rfl
noncomputable def stR (h:Option Hp):R:=ob h (fun h=>ok .undef h)
theorem jtj:stR (some h)=some (.undef,h):=rfl
theorem jeq {b o:Nat} {x:SV} (k:Ok h):j5o h 1 (some (.s (.ptr b o))) (some (.s x))=stR (wrB h b (h.get b) o [x]):=j90 k
theorem jc4 {n b o:Nat} {cs:List SV} (k:Ok h) (hn:cs.length=n):j5o h n (some (.s (.ptr b o))) (some (.agg cs))=stR (wrB h b (h.get b) o cs):=j2n k hn
noncomputable def qli (h:Hp) (e:TypeId) (size bytes:Nat) (x y:Option AV):R:=ob x (fun v=>ob y (fun w=>jjk h e size bytes v w))
theorem j5p {e:TypeId} {size bytes:Nat} {x y:Od}:jd8 st fr h (.app e size bytes x y)=qli h e size bytes (ev st fr x) (ev st fr y):=rfl
theorem jpg {e:TypeId} {size bytes:Nat}:qli h e size bytes (some v) (some w)=jjk h e size bytes v w:=rfl
noncomputable def bsO (h:Hp) (e:TypeId) (size len:Nat) (x:Option (List SV)):R:=ob x (fun cs=>some (.s (.slice h.next 0 len len true size),h.push (.arr cs e)))
theorem jtk {e:TypeId} {size len:Nat} {cs:List SV}:bsO h e size len (some cs)=some (.s (.slice h.next 0 len len true size),h.push (.arr cs e)):=rfl
theorem jdr {e:TypeId} {size:Nat} {z:List SV} {len:Nat} {ps:List (Nat×Nat×Od)} (k:Ok h):jd8 st fr h (.bslice e size z len ps)=bsO h e size len (fill st fr ps z):=j2o k
noncomputable def qkb (h:Hp) (e:TypeId) (x:Option AV):R:=ob x (fun v=>cel v (fun cs=>some (.s (.ptr h.next 0),h.push (.arr cs e))))
theorem jkf {e:TypeId} {x:Od} (k:Ok h):jd8 st fr h (.box e x)=qkb h e (ev st fr x):=qd8 k
theorem j5q {e:TypeId} {x:SV}:qkb h e (some (.s x))=some (.s (.ptr h.next 0),h.push (.arr [x] e)):=rfl
theorem jtl {e:TypeId} {cs:List SV}:qkb h e (some (.agg cs))=some (.s (.ptr h.next 0),h.push (.arr cs e)):=rfl
noncomputable def qlj (h:Hp) (e:TypeId) (size bytes:Nat) (z:List SV) (x y:Option AV):R:=ob x (fun v=>ob y (fun u=>qje h e size bytes z v u))
theorem jlu {e:TypeId} {size bytes:Nat} {z:List SV} {l c:Od}:jd8 st fr h (.mkslice e size bytes z l c)=qlj h e size bytes z (ev st fr l) (ev st fr c):=rfl
theorem jph {e:TypeId} {size bytes:Nat} {z:List SV}:qlj h e size bytes z (some v) (some w)=qje h e size bytes z v w:=rfl
noncomputable def re1 (h:Hp) (x:Option (Bool×List SV)):R:=ob x (fun p=>ob (je7 p.1 p.2) (fun v=>some (v,h)))
theorem j5r {r:IR}:jcf (.mk fr h) [r]=re1 h (jml fr h r):=j2p
theorem qeh {a:SV}:re1 h (some (false,[a]))=some (.s a,h):=rfl
theorem qei {l:List SV}:re1 h (some (true,l))=some (.agg l,h):=rfl
noncomputable def reT (g:Option AV):Option (Bool×List SV):=ob g qly
theorem j5s {g:Nat}:jml fr h (.tmp g)=reT (jeb fr g):=rfl
theorem qej {x:SV}:reT (some (.s x))=some (false,[x]):=rfl
theorem jyn {x:List SV}:reT (some (.agg x))=some (true,x):=rfl
noncomputable def reC (h:Hp) (n:Nat) (agg:Bool) (g:Option AV):Option (Bool×List SV):=ob g (fun v=>jrr v (fun b off=>ob (rdB (h.get b) off n) (fun cs=>some (agg,cs))))
theorem jyo {g n:Nat} {agg:Bool}:jml fr h (.cell g n agg)=reC h n agg (jeb fr g):=rfl
noncomputable def reP (agg:Bool) (x:Option (List SV)):Option (Bool×List SV):=ob x (fun cs=>some (agg,cs))
theorem jtm {agg:Bool} {cs:List SV}:reP agg (some cs)=some (agg,cs):=rfl
theorem jyp {n b o:Nat} {agg:Bool}:reC h n agg (some (.s (.ptr b o)))=reP agg (rdB (h.get b) o n):=rfl
def qkc (x:R) (Q:AV->Hp->Prop):Prop:=obP x (fun p=>Q p.1 p.2)
theorem jpi {Q:AV->Hp->Prop}:qkc (some (v,h)) Q=Q v h:=jb1
theorem jjb {res:List IR} {Q:AV->Hp->Prop}:qbk res Q .normal s=qkc (jcf s res) Q:=rfl
theorem jtn {res:List IR} {Q:AV->Hp->Prop}:qbk res Q .ret s=qkc (jcf s res) Q:=rfl
noncomputable def re2 (h:Hp) (x:Option (List (Bool×List SV))):R:=ob x (fun vs=>some (.tup vs,h))
theorem jto {l:List (Bool×List SV)}:re2 h (some l)=some (.tup l,h):=rfl
theorem j5t {r r':IR} {k:List IR}:jcf (.mk fr h) (r::r'::k)=re2 h (jgi fr h (r::r'::k)):=j2q
theorem jco {size b off len mc sz:Nat} {ex:Bool} (hm:1<len):jw3 size (.s (.slice b off len mc ex sz)) (vi 1)=some (.s (.ptr b (off+size))):=by
 have:=jbf (size:=size) (b:=b) (off:=off) (len:=len) (mc:=mc) (sz:=sz) (ex:=ex) hm
 rw [Nat.one_mul] at this;exact this
theorem jds {n size b off:Nat} (hm:0<n):qbn n size (.s (.ptr b off)) (vi 0)=some (.s (.ptr b off)):=by
 have:=jcv (n:=n) (size:=size) (b:=b) (off:=off) hm
 rw [Nat.zero_mul,Nat.add_zero] at this;exact this
theorem jdt {n size b off:Nat} (hm:1<n):qbn n size (.s (.ptr b off)) (vi 1)=some (.s (.ptr b (off+size))):=by
 have:=jcv (n:=n) (size:=size) (b:=b) (off:=off) hm
 rw [Nat.one_mul] at this;exact this
theorem jer {n size:Nat} {cs:List SV} (hm:0<n):qbn n size (.s (.cp cs)) (vi 0)=some (.s (.cp cs)):=by
 have:=jff (n:=n) (size:=size) (cs:=cs) hm
 rw [Nat.zero_mul] at this;exact this
theorem jes {n size:Nat} {cs:List SV} (hm:1<n):qbn n size (.s (.cp cs)) (vi 1)=some (.s (.cp (jcb size cs))):=by
 have:=jff (n:=n) (size:=size) (cs:=cs) hm
 rw [Nat.one_mul] at this;exact this
theorem jkg (k:Ok h):h.hid=[]:=k.hid
noncomputable def mkL (agg:Bool) (x:Option (List SV)):Option AV:=ob x (fun cs=>je7 agg cs)
theorem qek {cs:List SV}:mkL true (some cs)=some (.agg cs):=rfl
theorem qel {a:SV}:mkL false (some [a])=some (.s a):=rfl
theorem j5u {n b o:Nat} {agg:Bool}:jmm h n agg (.s (.ptr b o))=mkL agg (rdB (h.get b) o n):=rfl
theorem qem {n:Nat} {cs:List SV} {agg:Bool}:jmm h n agg (.s (.cp cs))=mkL agg (jbx n cs):=rfl
theorem qen {a b:Int} (h1:0<=a) (h3:0<b):0<=a % b/\a % b<=a:=by
 have h2:=Int.emod_add_mul_ediv a b
 have h:=Int.ediv_nonneg h1 (Int.le_of_lt h3)
 have h4:=Int.mul_nonneg (Int.le_of_lt h3) h
 exact ⟨Int.emod_nonneg a (by omega),by omega⟩
theorem jfh {a b:Int} (h1:0<=a) (h2:a<=9223372036854775807) (h3:0<b):jej .rem (.int .i64 a) (.int .i64 b)=some (vi (a % b)):=by
 have:=qen h1 h3
 rw [jx1,if_neg (by omega),Int.tmod_eq_emod_of_nonneg h1,jik (by omega) (by omega)]
theorem j5v {a b:Int} (h1:-9223372036854775808<=a) (h2:a<=9223372036854775807) (h3:0<b):-9223372036854775808<=a.tdiv b/\a.tdiv b<=9223372036854775807:=by
 have h:=Int.natAbs_tdiv_le_natAbs a b
 rcases (by omega:a<0∨0<=a) with h4 | h4
 ·have h5:a.tdiv b<=0:=by
   obtain ⟨c,rfl⟩:∃ c,a=-c:=⟨-a,by omega⟩
   rw [Int.neg_tdiv]
   have:=Int.tdiv_nonneg (a:=c) (b:=b) (by omega) (Int.le_of_lt h3)
   omega
  omega
 ·omega
theorem jjc {a b:Int} (h1:-9223372036854775808<=a) (h2:a<=9223372036854775807) (h3:0<b):jej .quo (.int .i64 a) (.int .i64 b)=some (vi (a.tdiv b)):=by
 have:=j5v h1 h2 h3
 rw [qd4,if_neg (by omega),jik this.1 this.2]
theorem jjd {a n:Int} {k:IntKind} (h1:0<=n) (h2:n<=63):jej .shr (.int .i64 a) (.int k n)=some (vi (a / 2 ^ n.toNat)):=by
 obtain ⟨m,rfl⟩:=Int.eq_ofNat_of_zero_le h1
 exact qd5 (by omega)
theorem jet {a n:Nat}:(a=a+(n+1))=False:=eq_false (by omega)
theorem jeu {a n:Nat}:(a+(n+1)=a)=False:=eq_false (by omega)
theorem jev {e:TypeId} {bytes:Nat} {x:SV} (ok:Ok h) (h1:bytes<=1000):qje h e 1 bytes [x] (vi 2) (vi 2)=some (.s (.slice h.next 0 2 2 true 1),h.push (.arr [x,x] e)) :=
 j5a (m:=2) ok (by omega) (by omega)
theorem jjl {a b:Nat} (h:a≠b):(a=b)=False:=eq_false h
theorem jdj {a b:Nat} (h:b<a):(a<=b)=False:=eq_false (by omega)
theorem jdk {a b:Nat} (h:b<=a):(a<b)=False:=eq_false (by omega)
theorem jjm {a b:Nat} (h:a<=b):(a<=b)=True:=eq_true h
theorem jjn {a b:Nat} (h:a<b):(a<b)=True:=eq_true h
theorem ql0 {a b:Int} (h:a<=b):(a<=b)=True:=eq_true h
theorem ql1 {a b:Int} (h:a<b):(a<b)=True:=eq_true h
def qeo (F:Fns) (dst:Option Nat) (m:List (IOper×Option (List Nat))) (st:List AV) (es:List Ent) (fr:List AV) (h:Hp) (Q:Ex->St->Prop) (v:AV) (h':Hp):Prop:=WD F m (v::st) (.mk [(h.next,h'.next)] none::es) (jcc fr dst v) (.mk h'.next h'.tr h.lo h.hid) Q
def zkH (F:Fns) (x:Option (List (Nat×Nat))) (vs:Option (List AV)) (f:FuncId) (dst:Option Nat) (m:List (IOper×Option (List Nat))) (st:List AV) (es:List Ent) (fr:List AV) (h:Hp) (Q:Ex->St->Prop):Prop:=obP x (fun hid'=>obP vs (fun vs=>WC F f vs (h.hide h.next hid') (qeo F dst m st es fr h Q)))
theorem jtp {x:List (Nat×Nat)} {vs:List AV} {f:FuncId}:zkH F (some x) (some vs) f dst m st es fr h Q=WC F f vs (h.hide h.next x) (qeo F dst m st es fr h Q):=by
 unfold zkH;rw [jb1,jb1]
theorem jlv {lo:Nat} {x:List (Nat×Nat)}:qeo F dst m st es fr h Q v (h.hide lo x)=WD F m (v::st) (.mk [(h.next,h.next)] none::es) (jcc fr dst v) h Q:=by cases h;rfl
theorem jg7 {f:FuncId} {as:List Od} {js:List Nat}:WD F ((.mk dst (.a (.call f as)) none,some js)::m) st es fr h Q=zkH F (sel es js h.hid) (evs st fr as) f dst m st es fr h Q:=by
 cases h with
 | mk k t lo hid =>
 rw [joh]
 have key:∀ n v h' e,jw1 (jbm F (run F n)) st fr es (.mk k t lo hid) (.a (.call f as)) none (some js)=some (.mk v h' e)↔∃ x vs h1,sel es js hid=some x/\evs st fr as=some vs/\jbm F (run F n) f vs (.mk k t k x)=some (v,h1)/\h'=.mk h1.next h1.tr lo hid/\e=.mk [(k,h1.next)] none:=fun n v h' e=>by
  have e0:jw1 (jbm F (run F n)) st fr es (.mk k t lo hid) (.a (.call f as)) none (some js)=ob (sel es js hid) (fun x=>ob (ob (evs st fr as) (fun vs=>jbm F (run F n) f vs (.mk k t k x))) (fun p=>Hp.casesOn (motive:=fun _=>Option DR) p.2 (fun n' t' _ _=>some (.mk p.1 (.mk n' t' lo hid) (.mk [(k,n')] none))))):=rfl
  rw [e0]
  constructor
  ·intro h1
   obtain ⟨x,hx,h2⟩:=jab.1 h1
   obtain ⟨p,hp,h3⟩:=jab.1 h2
   obtain ⟨vs,hvs,h4⟩:=jab.1 hp
   obtain ⟨v1,⟨n1,t1,l1,d1⟩⟩:=p
   cases h3
   exact ⟨x,vs,_,hx,hvs,h4,rfl,rfl⟩
  ·rintro ⟨x,vs,⟨n1,t1,l1,d1⟩,hx,hvs,h4,rfl,rfl⟩
   exact jab.2 ⟨x,hx,jab.2 ⟨(v,.mk n1 t1 l1 d1),jab.2 ⟨vs,hvs,h4⟩,rfl⟩⟩
 refine propext ⟨fun ⟨n,v,h',e,h1,h2⟩=>?_,fun ⟨x,hx,vs,hvs,n,v,h1,h2,h3⟩=>⟨n,v,_,_,(key n v _ _).2 ⟨x,vs,h1,hx,hvs,h2,rfl,rfl⟩,h3⟩⟩
 obtain ⟨x,vs,h3,hx,hvs,h4,rfl,rfl⟩:=(key n v h' e).1 h1
 exact ⟨x,hx,vs,hvs,n,v,h3,h4,h2⟩
theorem jdd {a:Nat} {n:Nat}:((a:Int) / 2 ^ n)=((a / 2 ^ n:Nat):Int):=by
 rw [Int.natCast_ediv,Int.natCast_pow];rfl
theorem jde {i:Nat}:(4+(i:Int)).toNat=4+i:=by omega
theorem jdf {i:Nat}:(9+(i:Int)).toNat=9+i:=by omega
theorem jdg {i:Nat}:(i:Int).toNat=i:=by omega
theorem jje {a:Nat}:decide ((a:Int) % 2=1)=decide (a % 2=1):=decide_eq_decide.2 (by omega)
theorem jfi {a:Nat}:(a:Int).tdiv 4=((a / 4:Nat):Int):=rfl
theorem jfj {a:Nat}:(a:Int).tdiv 5=((a / 5:Nat):Int):=rfl
theorem jgt {x:Option AB} {off sz j:Nat} {row:List SV} {c:SV} (hr:rdB x off sz=some row) (hj:row[j]?=some c):rdB x (off+j) 1=some [c]:=by
 cases x with
 | none=>cases hr
 | some x =>
  cases x with
  | map va es=>cases hr
  | arr cs ty =>
   rw [jfe,jby] at hr ⊢
   obtain ⟨h1,rfl⟩:=(ja1 _).1 hr
   have hjs:j<sz:=by
    rcases Nat.lt_or_ge j sz with h | h
    ·exact h
    ·rw [List.getElem?_eq_none (by simp;omega)] at hj;cases hj
   have hj2:cs[off+j]?=some c:=by
    rw [List.getElem?_take,if_pos hjs,List.getElem?_drop] at hj;exact hj
   have hl:off+j<cs.length:=by
    rcases Nat.lt_or_ge (off+j) cs.length with h | h
    ·exact h
    ·rw [List.getElem?_eq_none h] at hj2;cases hj2
   refine (ja1 _).2 ⟨by simp;omega,?_⟩
   have e:cs.drop (off+j)=c::cs.drop (off+j+1):=by
    rw [List.drop_eq_getElem_cons hl]
    rw [List.getElem?_eq_getElem hl] at hj2
    rw [Option.some.inj hj2]
   rw [e];rfl
noncomputable def mmV (mx:Bool) (x y:Option AV):Option AV:=ob x (fun a=>ob y (fun b=>jmt a (fun k m=>jmt b (fun k' n=>oif (Nat.beq (ikn k) (ikn k')) (some (.s (.int k (oif (ile m n) (oif mx n m) (oif mx m n))))) none))))
theorem qep {mx:Bool} {x y:Od}:pop st fr (.mm mx x y)=mmV mx (ev st fr x) (ev st fr y):=rfl
theorem jyq {a b:Int}:mmV false (some (.s (.int .i64 a))) (some (.s (.int .i64 b)))=some (vi (if a<=b then a else b)):=by
 show some (AV.s (.int .i64 (oif (ile a b) a b)))=_
 rw [jas,jdn];simp only [decide_eq_true_eq]
theorem jtq {a b:Int}:mmV true (some (.s (.int .i64 a))) (some (.s (.int .i64 b)))=some (vi (if a<=b then b else a)):=by
 show some (AV.s (.int .i64 (oif (ile a b) b a)))=_
 rw [jas,jdn];simp only [decide_eq_true_eq]
end
attribute [go_sem] jg7 jtp jlv j4r qdx j4s j9s jxp jx4 jsz jsf j4t j4u jx5 jsu jx6 jsx jsw js0 jsy jo0 jsv j4w jx7 js1 js2 jx8 js4 js3 js6 js5 jo1 jh6 jo2 jh7 jo3 jge jo5 jo4 jf2 jlc jod ji4 joe jse jh2 jld jof j5c j5e jo6 jlr jx9 js7 j5g jyb js9 jtb jyd jyf jo8 jyh j5d j5f jo7 jls jya js8 j5h jyc jta jtc jye jyg jo9 jyi qj3 qj4 qj5 jxr jsg jok jol jom jon joo jop ji7 ji8 qj6 qj7 jb8 qd2 joq jsh jlf jsi jlg qd3 jxs j4y j4z j40 jsj jlh jli jlj jlk jor jsk jos jot jll jh4 jf5 jou jxt jxu qep jyq jtq j41 jyl jlt jov jsl jow j5i jpa jxv jxw j5j jtd jyj jsm j5n jtg jtf jyk jpb jte jsn jkc jso jox jlm ji9 joy jsp jsq j5k jpc jsr jkd jln joz jxy jxz jx0 jjc jfh jjd j43 j44 j45 j46 j47 j48 j5l jpd j5m jpe j5r qeh qei j5s qej jyn jyo jtm jyp jpi jjb jtn jlp jfg jlq j5t jto qea jfe jss jym jpf jth qee qef jti jtj jlu jph j5p jpg jtk j5q jtl jx3 j5b jx2 jst jaa jja j5u qem qek qel jet jeu jco jcv jff jds jdt jer jes jkg jep jdr jkf jg6 jeq jc4 jav jai jev jcn jbf
end Go.Proofs.Ytaljcpoopmedmaa.Ev
