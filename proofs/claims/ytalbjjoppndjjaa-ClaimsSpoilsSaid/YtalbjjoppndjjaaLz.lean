/- Open runs: what operations answer at values that are known in part. No program in sight. -/
import Derived.Test.YtalbjjoppndjjaaOp
namespace Go.Proofs.Ytalbjjoppndjjaa.Ev
noncomputable section
open Go Go.RowKit
set_option linter.all false
variable {t agg ex':Bool} {rows:List (List SV)} {vs:List AV} {js:List Nat} {z xs row:List SV} {g i j o b' lo o' mc' sz' bytes:Nat} {u:SV}
abbrev vi (n:Int):AV:=.s (.int .i64 n)
abbrev vb (b:Bool):AV:=.s (.bool b)
abbrev si (n:Int):SV:=.int .i64 n
section
variable {st fr:List AV} {h:Hp} {α β:Type}
theorem qq8:ev st fr (.l i)=jd3 st i:=rfl
theorem qq9:ev st fr (.g i)=jd3 fr i:=rfl
theorem qra {v:AV}:ev st fr (.c v)=some v:=rfl
theorem jym:evs st fr []=some []:=rfl
theorem jsm {o:Od} {l:List Od}:evs st fr (o::l)=ob (ev st fr o) (fun v=>ob (evs st fr l) (fun r=>some (v::r))):=rfl
theorem jor {a:α} {l:List α}:jd3 (a::l) 0=some a:=rfl
theorem jos {a:α} {l:List α} {n:Nat}:jd3 (a::l) (n+1)=jd3 l n:=rfl
theorem jot {a x:α} {l:List α}:ju8 (a::l) 0 x=x::l:=rfl
theorem jou {a x:α} {l:List α} {n:Nat}:ju8 (a::l) (n+1) x=a::ju8 l n x:=rfl
theorem jov {v:AV}:jcs fr none v=fr:=rfl
theorem jow {d:Nat} {v:AV}:jcs fr (some d) v=ju8 fr d v:=rfl
theorem jip:jc4 0=[]:=rfl
theorem jiq {n:Nat}:jc4 (n+1)=.undef::jc4 n:=rfl
theorem qrb {a:α} {f:α->Option β}:ob (some a) f=f a:=rfl
theorem qrc {f:α->Option β}:ob none f=none:=rfl
theorem jbi {b:Bool} {x y:α}:oif b x y=if b=true then x else y:=by cases b<;>rfl
theorem qgc {e:Option β} {x:SV} {f:SV->Option β}:svc e (.s x) f=f x:=rfl
theorem jox {e:Option β} {f:SV->Option β}:svc e .undef f=e:=rfl
theorem jsn {k:IntKind} {n:Int} {f:IntKind->Int->Option β}:qe5 (.int k n) f=f k n:=rfl
theorem jll {b:Bool} {f:Bool->Option β}:jqf (.bool b) f=f b:=rfl
theorem jso {k:IntKind} {n:Int} {f:IntKind->Int->Option β}:jmu (.s (.int k n)) f=f k n:=rfl
theorem jlm {b:Bool} {f:Bool->Option β}:jif (.s (.bool b)) f=f b:=rfl
theorem qgd {x:SV} {f:List SV->Option β}:cel (.s x) f=f [x]:=rfl
theorem jyn {l:List SV} {f:List SV->Option β}:cel (.agg l) f=f l:=rfl
theorem j6d {a:SV}:jf2 false [a]=some (.s a):=rfl
theorem j6e {l:List SV}:jf2 true l=some (.agg l):=rfl
theorem j6f {x:SV} {f:List SV->Option β}:qaf false (.s x) f=f [x]:=rfl
theorem jsp {l:List SV} {f:List SV->Option β}:qaf true (.agg l) f=f l:=rfl
theorem jln {l:List α}:jby 0 l=some []:=rfl
theorem jlp {a:α} {l:List α} {n:Nat}:jby (n+1) (a::l)=ob (jby n l) (fun x=>some (a::x)):=rfl
theorem jlq {l:List α}:jci 0 l=l:=rfl
theorem jlr {a:α} {l:List α} {n:Nat}:jci (n+1) (a::l)=jci n l:=rfl
theorem joy {n:Nat}:jci n ([]:List α)=[]:=by cases n<;>rfl
theorem jsq:jdc ([]:List α)=0:=rfl
theorem joz {a:α} {l:List α}:jdc (a::l)=jdc l+1:=rfl
theorem jo0 {l:List α}:jnn [] l=some l:=rfl
theorem jls {x a:α} {xs l:List α}:jnn (x::xs) (a::l)=ob (jnn xs l) (fun y=>some (x::y)):=rfl
theorem jhh {xs l:List α}:jbq 0 xs l=jnn xs l:=rfl
theorem jdk {a:α} {xs l:List α} {n:Nat}:jbq (n+1) xs (a::l)=ob (jbq n xs l) (fun y=>some (a::y)):=rfl
theorem jo1 {a:Nat}:Nat.beq a a=true:=f2h a
theorem jyo {a b:Nat}:(Nat.beq a b=true)=(a=b):=jgz a b
theorem jyp {a b:Nat}:(Nat.ble a b=true)=(a<=b):=jr2 a b
theorem j6g {x:Od}:pop st fr (.mv x)=ev st fr x:=rfl
theorem jo2 {ps:List (Nat×Nat×Od)}:pop st fr (.build z ps)=ob (fill st fr ps z) (fun cs=>some (.agg cs)):=rfl
theorem jsr {cs:List SV}:fill st fr [] cs=some cs:=rfl
theorem jo3 {off n:Nat} {o:Od} {ps:List (Nat×Nat×Od)} {cs:List SV}:fill st fr ((off,n,o)::ps) cs=ob (ev st fr o) (fun v=>cel v (fun xs=>oif (Nat.beq (jdc xs) n) (ob (jbq off xs cs) (fill st fr ps)) none)):=rfl
theorem jyq {x:Od}:pop st fr (.not x)=ob (ev st fr x) (fun v=>jif v (fun b=>some (.s (.bool (!b))))):=by
 show ob (ev st fr x) (fun v=>jif v (fun b=>some (AV.s (.bool (jkt b)))))=_
 congr 1;funext v;congr 1;funext b;cases b<;>rfl
theorem jyr {x:Od}:pop st fr (.neg x)=ob (ev st fr x) (fun v=>jmu v (fun k n=>j4l k (-n))):=rfl
theorem jss {off n:Nat} {x:Od}:pop st fr (.fval off n agg x)=none:=rfl
theorem jst {k:IntKind} {x:Od}:pop st fr (.conv k x)=ob (ev st fr x) (fun v=>jmu v (fun _ n=>qae k n)):=rfl
theorem jjx {f:FuncId} {cs:List Od}:pop st fr (.mkfun f cs)=ob (evs st fr cs) (fun vs=>ob (qc0 vs) (fun ps=>some (.s (.func f ps)))):=rfl
theorem jsu:qc0 []=some []:=rfl
theorem jo4 {b:Nat} {l:List AV}:qc0 (.s (.ptr b o)::l)=ob (qc0 l) (fun r=>some ((b,o)::r)):=rfl
theorem jlt:jfk []=[]:=rfl
theorem jir {b:Nat} {l:List (Nat×Nat)}:jfk ((b,o)::l)=.s (.ptr b o)::jfk l:=rfl
theorem jo5 {b:Nat} {f:Nat->Nat->Option β} {g:List SV->Option β}:jez (.s (.ptr b o)) f g=f b o:=rfl
theorem jsv {cs:List SV} {f:Nat->Nat->Option β} {g:List SV->Option β}:jez (.s (.cp cs)) f g=g cs:=rfl
theorem jsw {b:Nat} {f:Nat->Nat->Option β}:ju9 (.s (.ptr b o)) f=f b o:=rfl
def jxu (v:AV):Option AV:=jc3 v (some (.s (.int .i64 0))) (fun _ _ n _ _ _=>some (.s (.int .i64 (Int.ofNat n)))) (fun rows=>some (.s (.int .i64 (Int.ofNat (jdc rows))))) (some (.s (.int .i64 0)))
theorem jsx:jxu (.s .nilSlice)=some (vi 0):=rfl
theorem jjy:jxu (.s (.lst rows))=some (vi rows.length):=by
 show some (AV.s (.int .i64 (Int.ofNat (jdc rows))))=_
 rw[jbr];rfl
theorem jlu {b n mc sz:Nat} {e:Bool}:jxu (.s (.slice b o n mc e sz))=some (vi n):=rfl
def j6h (n:Int):Option AV:=if -9223372036854775808<=n/\n<=9223372036854775807 then some (vi n) else none
theorem qbg {n:Int} (h1:-9223372036854775808<=n) (h2:n<=9223372036854775807):inR .i64 n=true:=by
 cases n with
 | ofNat m=>exact(jr2 m 9223372036854775807).symm▸(by have:(m:Int)<=9223372036854775807:=h2
                                                      omega)
 | negSucc m=>exact(jr2 m 9223372036854775807).symm▸(by have:-9223372036854775808<=Int.negSucc m:=h1
                                                        omega)
theorem jo6 {n:Int}:j4l .i64 n=j6h n:=by
 unfold j6h
 show oif (inR .i64 n) (some (AV.s (.int .i64 n))) none=_
 split
 .rename_i h;rw[qbg h.1 h.2];rfl
 .rename_i h
  cases e:inR .i64 n with
  | false=>rfl
  | true =>
   rcases jes e with⟨_,a,b⟩ | ⟨e,_⟩ | ⟨e,_⟩
   .exact absurd ⟨a,b⟩ h
   .cases e
   .cases e
theorem jh2 {n:Int} (h1:-9223372036854775808<=n) (h2:n<=9223372036854775807):j6h n=some (vi n):=if_pos ⟨h1,h2⟩
def w64 (n:Int):Int:=IntKind.wrap .i64 n
theorem jac {n:Int} (h1:-9223372036854775808<=n) (h2:n<=9223372036854775807):w64 n=n:=jjc (qbg h1 h2)
theorem jys {n:Int}:qac .i64 n=some (vi (w64 n)):=by
 show oif (inR .i64 n) (some (AV.s (.int .i64 n))) (some (AV.s (.int .i64 (IntKind.wrap .i64 n))))=_
 cases e:inR .i64 n with
 | true=>rw[show w64 n=n from jjc e];rfl
 | false=>rfl
variable {a b:Int}
theorem jyt:jec .add (.int .i64 a) (.int .i64 b)=some (vi (w64 (a+b))):=by
 rw[←jys];show qac .i64 (qls a b)=_;rw[j4y]
theorem jyu:jec .sub (.int .i64 a) (.int .i64 b)=some (vi (w64 (a - b))):=by rw[←jys];rfl
theorem jyv:jec .mul (.int .i64 a) (.int .i64 b)=some (vi (w64 (a*b))):=by rw[←jys];rfl
theorem qge:jec .quo (.int .i64 a) (.int .i64 b)=if b=0 then none else j6h (a.tdiv b):=by
 rw[←jo6]
 show oif (ieq b 0) none (j4l .i64 (a.tdiv b))=_
 rw[jax,jbm];simp only[decide_eq_true_eq]
theorem jyw:jec .rem (.int .i64 a) (.int .i64 b)=if b=0 then none else j6h (a.tmod b):=by
 rw[←jo6]
 show oif (ieq b 0) none (j4l .i64 (a.tmod b))=_
 rw[jax,jbm];simp only[decide_eq_true_eq]
theorem j6i:jec .eq (.int .i64 a) (.int .i64 b)=some (vb (decide (a=b))):=by
 show some (AV.s (.bool (ieq a b)))=_;rw[jbm]
theorem j6j:jec .ne (.int .i64 a) (.int .i64 b)=some (vb (decide (a≠b))):=by
 show some (AV.s (.bool (jkt (ieq a b))))=_;rw[jbm,jg6];congr 3;by_cases h:a=b<;>simp[h]
theorem j6k:jec .lt (.int .i64 a) (.int .i64 b)=some (vb (decide (a<b))):=by
 show some (AV.s (.bool (jkt (ile b a))))=_;rw[jee,jg6];congr 3;by_cases h:a<b<;>simp[h]
 omega
theorem j6l:jec .le (.int .i64 a) (.int .i64 b)=some (vb (decide (a<=b))):=by
 show some (AV.s (.bool (ile a b)))=_;rw[jee]
theorem j6m:jec .gt (.int .i64 a) (.int .i64 b)=some (vb (decide (b<a))):=by
 show some (AV.s (.bool (jkt (ile a b))))=_;rw[jee,jg6];congr 3;by_cases h:b<a<;>simp[h]
 omega
theorem j6n:jec .ge (.int .i64 a) (.int .i64 b)=some (vb (decide (b<=a))):=by
 show some (AV.s (.bool (ile b a)))=_;rw[jee]
theorem qgf {n:Nat} {k:IntKind} (hn:n<=63):jec .shr (.int .i64 a) (.int k (n:Int))=some (vi (a / 2 ^ n)):=by
 have hs:qad .i64 n=true:=by
  have hI:jno .i64=true:=rfl
  unfold qad
  simp[jax,jr2,hn,hI]
 have e:jec .shr (.int .i64 a) (.int k (n:Int))=jvb .shr .i64 a (n:Int):=by
  show oif (Nat.beq (ikn .i64) (ikn k)) (jvb .shr .i64 a n) (oif true (jvb .shr .i64 a n) none)=_
  cases Nat.beq (ikn .i64) (ikn k)<;>rfl
 rw[e]
 cases a with
 | ofNat m =>
  show oif (qad .i64 n) (some (AV.s (.int .i64 (Int.ofNat (Nat.div m (Nat.pow 2 n)))))) none=_
  rw[hs]
  have:Int.ofNat (Nat.div m (Nat.pow 2 n))=Int.ofNat m / 2 ^ n:=by
   show((m / 2 ^ n:Nat):Int)=(m:Int) / 2 ^ n
   rw[Int.natCast_ediv,f3q];rfl
  rw[this];rfl
 | negSucc m =>
  show oif (qad .i64 n) (some (AV.s (.int .i64 (Int.negSucc (Nat.div m (Nat.pow 2 n)))))) none=_
  rw[hs]
  have:Int.negSucc (Nat.div m (Nat.pow 2 n))=Int.negSucc m / 2 ^ n:=by
   obtain⟨q,hq⟩:∃ q,2 ^ n=q+1:=⟨2 ^ n - 1,by have:=Nat.two_pow_pos n;omega⟩
   have h2:(2:Int) ^ n=((q+1:Nat):Int):=by rw[←hq,f3q];rfl
   have h3:Nat.pow 2 n=q+1:=hq
   rw[h2,h3];rfl
  rw[this];rfl
theorem jgn (h1:-9223372036854775808<=a) (h2:a<=9223372036854775807):jec .and (.int .i64 a) (.int .i64 1)=some (vi (a % 2)):=by
 have hr:=qbg h1 h2
 cases a with
 | ofNat m =>
  show oif (inR .i64 (.ofNat m)) (some (AV.s (.int .i64 (.ofNat (Nat.land m 1))))) none=_
  rw[hr]
  have:Int.ofNat (Nat.land m 1)=Int.ofNat m % 2:=by
   rw[show Nat.land m 1=m % 2 from f2b m];rfl
  rw[this];rfl
 | negSucc m =>
  show oif (inR .i64 (.negSucc m)) (some (AV.s (.int .i64 (.ofNat (Nat.xor 1 (Nat.land 1 m)))))) none=_
  rw[hr]
  have:Int.ofNat (Nat.xor 1 (Nat.land 1 m))=Int.negSucc m % 2:=by
   have e:Nat.land 1 m=m % 2:=(Nat.and_comm 1 m).trans (f2b m)
   rw[e]
   rcases Nat.mod_two_eq_zero_or_one m with h | h
   .rw [h];show(1:Int)=_;omega
   .rw [h];show(0:Int)=_;omega
  rw[this];rfl
theorem qgg (h1:-9223372036854775808<=a) (h2:a<=9223372036854775807):jec .or (.int .i64 a) (.int .i64 1)=some (vi (a+(1 - a % 2))):=by
 have hr:=qbg h1 h2
 cases a with
 | ofNat m =>
  show oif (inR .i64 (.ofNat m)) (some (AV.s (.int .i64 (.ofNat (Nat.lor m 1))))) none=_
  rw[hr]
  have:Int.ofNat (Nat.lor m 1)=Int.ofNat m+(1 - Int.ofNat m % 2):=by
   have e:m ||| 1=m+(1 - m % 2):=by
    have h1:(m ||| 1) / 2=m / 2:=by rw[Nat.or_div_two];simp
    have h2:(m ||| 1) % 2=1:=by rw[Nat.or_mod_two_eq_one];simp
    omega
   show((m ||| 1:Nat):Int)=(m:Int)+(1 - (m:Int) % 2)
   rw[e];omega
  rw[this];rfl
 | negSucc m =>
  show oif (inR .i64 (.negSucc m)) (some (AV.s (.int .i64 (.negSucc (Nat.xor m (Nat.land m 1)))))) none=_
  rw[hr]
  have:Int.negSucc (Nat.xor m (Nat.land m 1))=Int.negSucc m+(1 - Int.negSucc m % 2):=by
   have e:m ^^^ (m &&& 1)=m - m % 2:=by
    have h1:(m ^^^ (m &&& 1)) / 2=m / 2:=by rw[Nat.xor_div_two,Nat.and_div_two];simp
    have h2:¬ (m ^^^ (m &&& 1)) % 2=1:=by
     have e:m &&& 1=m % 2:=f2b m
     rw[e,Nat.xor_mod_two_eq_one];omega
    omega
   show Int.negSucc (m ^^^ (m &&& 1))=_
   rw[e];omega
  rw[this];rfl
end
class Ok (h:Hp):Prop where
 hid:h.hid=[]
 lo:h.lo=0
 pos:1<=h.next
theorem jgo {a b:Nat} (h:a<=b):Nat.ble a b=true:=by rw[jr2];exact h
theorem jdx:Ok h0:=⟨rfl,rfl,f0f 1⟩
section
variable {h:Hp} {F:Fns} {st fr:List AV} {Q:Ex->St->Prop} {β:Type}
theorem jaq {x:AB} (k:Ok h):Ok (h.push x):=⟨k.hid,k.lo,f2m k.pos⟩
theorem jao {b:Nat} {x:Option AB} (k:Ok h):Ok (h.put b x):=⟨by rw[Hp.hid_put];exact k.hid,by rw[Hp.lo_put];exact k.lo,by rw[Hp.next_put];exact k.pos⟩
instance iPush {x:AB} [k:Ok h]:Ok (h.push x):=jaq k
instance iPut {b:Nat} {x:Option AB} [k:Ok h]:Ok (h.put b x):=jao k
theorem jal {x:AB} {n:Nat} (k:Ok h):(h.push x).get n=if n=h.next then some x else h.get n:=by
 rw[Hp.get_eq,Hp.get_eq,Hp.hid_push,k.hid]
 have e:jap [] n=false:=rfl
 rw[e]
 show(h.tr.put (Nat.succ h.next) h.next (some x)).get n=_
 split
 .rename_i hn;subst hn;exact jbu _ _ _ _ k.pos (jl9 _)
 .rename_i hn;exact jb0 _ _ _ _ n k.pos (jl9 _) hn
theorem jai {b n:Nat} {x:Option AB} (k:Ok h) (hb:1<=b):(h.put b x).get n=if n=b then x else h.get n:=by
 rw[Hp.get_eq,Hp.get_eq,Hp.hid_put,k.hid,Hp.tr_put]
 have e:jap [] n=false:=rfl
 rw[e]
 show(h.tr.put (Nat.succ b) b x).get n=_
 split
 .rename_i hn;subst hn;exact jbu _ _ _ _ hb (jl9 _)
 .rename_i hn;exact jb0 _ _ _ _ n hb (jl9 _) hn
def Hp.hide (h:Hp) (lo:Nat) (hid:List (Nat×Nat)):Hp:=.mk h.next h.tr lo hid
theorem jlv {n:Nat}:jap [] n=false:=by cases n<;>rfl
theorem jis {a b n:Nat} {l:List (Nat×Nat)}:jap ((a,b)::l) n=if a<=n/\n<b then true else jap l n:=by
 show oif (Nat.ble a n) (oif (Nat.ble (n+1) b) true (jap l n)) (jap l n)=_
 simp only[jax,jr2]
 by_cases h1:a<=n
 .by_cases h2:n+1<=b
  .rw [if_pos h1,if_pos h2,if_pos ⟨h1,h2⟩]
  .rw [if_pos h1,if_neg h2,if_neg (fun h=>h2 h.2)]
 .rw [if_neg h1,if_neg (fun h=>h1 h.1)]
theorem qbh {n:Nat} {hid:List (Nat×Nat)} (k:Ok h):(h.hide lo hid).get n=if jap hid n=true then none else h.get n:=by
 rw[Hp.get_eq,Hp.get_eq,k.hid];rfl
theorem jsy {cs:List SV} {ty:TypeId} {f:Nat->Hp->Option β} (k:Ok h):nw h cs ty f=f h.next (h.push (.arr cs ty)):=by
 cases h with
 | mk n t lo hid =>
  obtain rfl:hid=[]:=k.hid
  rfl
def rdB (x:Option AB) (off n:Nat):Option (List SV):=ob x (fun x=>AB.casesOn (motive:=fun _=>Option (List SV)) x (fun cs _=>jby n (jci off cs)) (fun _ _=>none))
theorem je4 {cs:List SV} {ty:TypeId} {off n:Nat}:rdB (some (.arr cs ty)) off n=jby n (jci off cs):=rfl
def wrB (h:Hp) (b:Nat) (x:Option AB) (off:Nat) (xs:List SV):Option Hp:=ob x (fun x=>AB.casesOn (motive:=fun _=>Option Hp) x (fun cs ty=>ob (jbq off xs cs) (fun cs'=>some (h.put b (some (.arr cs' ty))))) (fun _ _=>none))
theorem qm4 {b off:Nat} (k:Ok h):wr h b off xs=wrB h b (h.get b) off xs:=by
 show oif (Nat.ble h.lo b) _ none=_
 rw[k.lo];rfl
theorem jo7 {b:Nat} {cs:List SV} {ty:TypeId} {off:Nat}:wrB h b (some (.arr cs ty)) off xs=ob (jbq off xs cs) (fun cs'=>some (h.put b (some (.arr cs' ty)))):=rfl
def jmr (h:Hp) (n:Nat) (agg:Bool) (v:AV):Option AV:=jez v (fun b off=>ob (rd h b off n) (fun cs=>jf2 agg cs)) (fun cs=>ob (jby n cs) (fun cs=>jf2 agg cs))
theorem qgh {α γ:Type} {x:Option α} {f:α->Option β} {g:β->Option γ}:ob (ob x f) g=ob x (fun a=>ob (f a) g):=by cases x<;>rfl
theorem j0x {n:Nat} {x:Od}:jex st fr h (.load n agg x)=ob (ev st fr x) (fun v=>ob (jmr h n agg v) (fun v=>ok v h)):=by
 show ob (ev st fr x) (fun v=>jez v (fun b off=>ob (rd h b off n) (fun cs=>ob (jf2 agg cs) (fun v=>ok v h))) (fun cs=>ob (jby n cs) (fun cs=>ob (jf2 agg cs) (fun v=>ok v h))))=_
 congr 1
 funext v
 cases v with
 | s v=>cases v<;>first | rfl | (show ob _ _=ob (ob _ _) _;rw[qgh])
 | _=>rfl
def j6o (h:Hp) (n:Nat) (p v:AV):R:=ju9 p (fun b off=>cel v (fun cs=>oif (Nat.beq (jdc cs) n) (ob (wr h b off cs) (fun h=>ok .undef h)) none))
theorem qbi {b:Nat} {v:SV} (k:Ok h):j6o h 1 (.s (.ptr b o)) (.s v)=ob (wrB h b (h.get b) o [v]) (fun h=>ok .undef h):=by
 show ob (wr h b o [v]) _=_
 rw[qm4 k]
theorem j3w {n b:Nat} {cs:List SV} (k:Ok h) (hn:cs.length=n):j6o h n (.s (.ptr b o)) (.agg cs)=ob (wrB h b (h.get b) o cs) (fun h=>ok .undef h):=by
 show oif (Nat.beq (jdc cs) n) (ob (wr h b o cs) _) none=_
 rw[qm4 k,jbr,hn,f2h];rfl
theorem qgi {e:TypeId} (k:Ok h):jex st fr h (.new e z)=some (.s (.ptr h.next 0),h.push (.arr z e)):=by
 show nw h z e (fun n h=>ok (.s (.ptr n 0)) h)=_
 rw[jsy k];rfl
theorem qgj {e:TypeId} {x:Od} (k:Ok h):jex st fr h (.box e x)=ob (ev st fr x) (fun v=>cel v (fun cs=>some (.s (.ptr h.next 0),h.push (.arr cs e)))):=by
 show ob (ev st fr x) (fun v=>cel v (fun cs=>nw h cs e (fun n h=>ok (.s (.ptr n 0)) h)))=_
 congr 1;funext v;congr 1;funext cs;rw[jsy k];rfl
theorem j3x {e:TypeId} {size:Nat} {len:Nat} {ps:List (Nat×Nat×Od)} (k:Ok h):jex st fr h (.bslice e size z len ps)=ob (fill st fr ps z) (fun cs=>some (.s (.slice h.next 0 len len true size),h.push (.arr cs e))):=by
 show ob (fill st fr ps z) (fun cs=>nw h cs e (fun n h=>ok (.s (.slice n 0 len len true size)) h))=_
 congr 1;funext cs;rw[jsy k];rfl
def qm5 (h:Hp) (e:TypeId) (size bytes:Nat) (z:List SV) (l c:AV):R:=qc3 l (fun m=>qc3 c (fun k=>oif (Nat.ble m k) (oif (Nat.ble (Nat.mul bytes k) 1000000000) (oif (Nat.ble k 1000000000) (nw h (rep z k) e (fun b h=>ok (.s (.slice b 0 m k true size)) h)) none) none) none))
theorem jyx {e:TypeId} {size:Nat} {m:Nat} (k:Ok h) (h1:bytes*m<=1000000000) (h2:m<=1000000000):qm5 h e size bytes z (vi m) (vi m)=some (.s (.slice h.next 0 m m true size),h.push (.arr (rep z m) e)):=by
 show oif (Nat.ble m m) (oif (Nat.ble (Nat.mul bytes m) 1000000000) (oif (Nat.ble m 1000000000) (nw h (rep z m) e _) none) none) none=_
 rw[jsy k,jgo (f0f m),jgo h2,show Nat.ble (Nat.mul bytes m) 1000000000=true from jgo h1];rfl
def jsz (size:Nat) (v w:AV):Option AV:=jc3 v none (fun b off len _ _ _=>jig w len (fun m=>some (.s (.ptr b (Nat.add off (Nat.mul m size))))))
 (fun rows=>jig w (jdc rows) (fun m=>ob (jd3 rows m) (fun row=>oif (Nat.beq (jdc row) size) (some (.s (.cp row))) none))) none
theorem jhi {m n:Nat} {f:Nat->Option β} (hm:m<n):jig (vi (m:Int)) n f=f m:=by
 show oif (Nat.ble (Nat.succ m) n) (f m) none=_
 rw[jgo (show Nat.succ m<=n from hm)];rfl
theorem ja7 {size b off len mc sz m:Nat} {ex:Bool} (hm:m<len):jsz size (.s (.slice b off len mc ex sz)) (vi (m:Int))=some (.s (.ptr b (off+m*size))):=jhi (f:=fun m=>some (AV.s (.ptr b (Nat.add off (Nat.mul m size))))) hm
theorem jcg {size b off len mc sz:Nat} {ex:Bool} (hm:0<len):jsz size (.s (.slice b off len mc ex sz)) (vi 0)=some (.s (.ptr b off)):=by
 have:=jhi (f:=fun m=>some (AV.s (.ptr b (Nat.add off (Nat.mul m size))))) hm
 refine this.trans ?_
 show some (AV.s (.ptr b (off+0*size)))=_
 rw[f2o,f1i]
theorem j0y {size m:Nat} (hr:rows[m]?=some row) (hl:row.length=size):jsz size (.s (.lst rows)) (vi (m:Int))=some (.s (.cp row)):=by
 have hm:m<rows.length:=by
  rcases f0g m rows.length with h | h
  .exact h
  .rw [f0o h] at hr;cases hr
 have:=jhi (f:=fun m=>ob (jd3 rows m) (fun row=>oif (Nat.beq (jdc row) size) (some (AV.s (.cp row))) none)) (show m<jdc rows by rw[jbr];exact hm)
 refine this.trans ?_
 rw[jca,hr]
 show oif (Nat.beq (jdc row) size) _ none=_
 rw[jbr,hl,f2h];rfl
def qde (n size:Nat) (v w:AV):Option AV:=jez v (fun b off=>jig w n (fun m=>some (.s (.ptr b (Nat.add off (Nat.mul m size)))))) (fun cs=>jig w n (fun m=>some (.s (.cp (jci (Nat.mul m size) cs)))))
theorem jcq {n size b off m:Nat} (hm:m<n):qde n size (.s (.ptr b off)) (vi (m:Int))=some (.s (.ptr b (off+m*size))):=jhi (f:=fun m=>some (AV.s (.ptr b (Nat.add off (Nat.mul m size))))) hm
theorem je5 {n size m:Nat} {cs:List SV} (hm:m<n):qde n size (.s (.cp cs)) (vi (m:Int))=some (.s (.cp (jci (m*size) cs))):=jhi (f:=fun m=>some (AV.s (.cp (jci (Nat.mul m size) cs)))) hm
def qrd (h:Hp) (e:TypeId) (size bytes b n m:Nat) (x:Option AB) (new:List SV):R :=
 jgj bytes (Nat.add n m) (ob x (fun x=>AB.casesOn (motive:=fun _=>R) x (fun cs ty =>
  ob (jby (Nat.mul n size) (jci 0 cs)) (fun old=>(oif (Nat.ble h.lo b) (oif (Nat.beq ty e) (nw (h.put b none) (jgi old new) e (fun k h=>ok (.s (.slice k 0 (Nat.add n m) (Nat.add n m) false size)) h)) none) none))) (fun _ _=>none)))
def jo8 (h:Hp) (e:TypeId) (size bytes:Nat) (v w:AV):R:=jc3 w (j99 v (ok v h)) (fun b' off' m _ _ _=>ob (rd h b' off' (Nat.mul m size)) (fun new=>j24 h e size bytes m v new))
 (fun rows=>ob (jqg size rows) (fun new=>j24 h e size bytes (jdc rows) v new)) (j99 v (ok v h))
theorem jv9 {e:TypeId} {size:Nat}:jo8 h e size bytes (.s .nilSlice) (.s .nilSlice)=some (.s .nilSlice,h):=rfl
theorem jqn {e:TypeId} {size b n mc sz:Nat} {ex:Bool}:jo8 h e size bytes (.s (.slice b o n mc ex sz)) (.s .nilSlice)=some (.s (.slice b o n mc ex sz),h):=rfl
theorem jic {e:TypeId} {size m:Nat}:jo8 h e size bytes (.s .nilSlice) (.s (.slice b' o' m mc' ex' sz'))=ob (rdB (h.get b') o' (m*size)) (fun new=>Nat.casesOn (motive:=fun _=>R) m (some (.s .nilSlice,h)) (fun _=>jgj bytes m (nw h new e (fun k h=>ok (.s (.slice k 0 m m false size)) h)))):=rfl
theorem jjz {n:Nat} {x:R} (h1:n*bytes<=1000000000) (h2:n<=1000000000):jgj bytes n x=x:=by
 show oif (Nat.ble (Nat.mul n bytes) 1000000000) (oif (Nat.ble n 1000000000) x none) none=_
 rw[show Nat.ble (Nat.mul n bytes) 1000000000=true from jgo h1,jgo h2];rfl
theorem jeg {e:TypeId} {size b n m:Nat} (hm:1<=m):jo8 h e size bytes (.s (.slice b 0 n n false size)) (.s (.slice b' o' m mc' ex' sz'))=ob (rdB (h.get b') o' (m*size)) (fun new=>qrd h e size bytes b n m (h.get b) new):=by
 show ob (rdB (h.get b') o' (m*size)) (fun new=>oif (Nat.beq size size) (oif (Nat.ble (Nat.add n m) n) _ (jgj bytes (Nat.add n m) (jfw h e size b 0 n m false new))) none)=_
 congr 1
 funext new
 have e1:Nat.ble (Nat.add n m) n=false:=by
  cases e:Nat.ble (Nat.add n m) n with
  | false=>rfl
  | true=>rw[jr2] at e;have:n+m<=n:=e;omega
 rw[f2h]
 show oif (Nat.ble (Nat.add n m) n) _ _=_
 rw[e1]
 rfl
theorem js0 {e:TypeId} {size b n m:Nat} {cs new:List SV} (k:Ok h) (hc:cs.length=n*size) (h1:(n+m)*bytes<=1000000000) (h2:n+m<=1000000000) :
 qrd h e size bytes b n m (some (.arr cs e)) new=some (.s (.slice h.next 0 (n+m) (n+m) false size),(h.put b none).push (.arr (cs++new) e)):=by
 show jgj bytes (n+m) (ob (jby (n*size) cs) (fun old=>oif (Nat.ble h.lo b) (oif (Nat.beq e e) (nw (h.put b none) (jgi old new) e _) none) none))=_
 rw[jjz h1 h2,(ja4 _).2 ⟨f2w hc.symm,rfl⟩,←hc,f2t]
 show oif (Nat.ble h.lo b) (oif (Nat.beq e e) (nw (h.put b none) (jgi cs new) e _) none) none=_
 rw[k.lo,f2h,jsy (jao k),jct,Hp.next_put]
 rfl
def qt5 (v:AV):Option (Bool×List SV):=AV.casesOn (motive:=fun _=>Option (Bool×List SV)) v (fun s=>some (false,[s])) (fun l=>some (true,l)) (fun _=>none) none none
theorem jlw:jf4 fr h []=some []:=rfl
theorem je6 {r:IR} {l:List IR}:jf4 fr h (r::l)=ob (jmn fr h r) (fun v=>ob (jf4 fr h l) (fun x=>some (v::x))):=rfl
theorem jlx:jb9 (.mk fr h) []=some (.tup [],h):=rfl
theorem j3y {r:IR}:jb9 (.mk fr h) [r]=ob (jmn fr h r) (fun p=>ob (jf2 p.1 p.2) (fun v=>some (v,h))):=by
 show ob (ob (jmn fr h r) (fun v=>ob (some []) (fun x=>some (v::x)))) (fun vs=>List.casesOn (motive:=fun _=>R) vs (ok (.tup []) h) (fun p r=>List.casesOn (motive:=fun _=>R) r (ob (jf2 p.1 p.2) (fun v=>ok v h)) (fun _ _=>ok (.tup vs) h)))=_
 cases jmn fr h r<;>rfl
theorem j3z {r r':IR} {l:List IR}:jb9 (.mk fr h) (r::r'::l)=ob (jf4 fr h (r::r'::l)) (fun vs=>some (.tup vs,h)):=by
 show ob (jf4 fr h (r::r'::l)) (fun vs=>List.casesOn (motive:=fun _=>R) vs (ok (.tup []) h) (fun p r=>List.casesOn (motive:=fun _=>R) r (ob (jf2 p.1 p.2) (fun v=>ok v h)) (fun _ _=>ok (.tup vs) h)))=_
 rw[je6,je6]
 cases jmn fr h r with
 | none=>rfl
 | some a=>cases jmn fr h r' with
  | none=>rfl
  | some b=>cases jf4 fr h l<;>rfl
theorem qgk {v:AV}:ok v h=some (v,h):=rfl
theorem jyy {es:List Ent} {hid:List (Nat×Nat)}:sel es [] hid=some hid:=rfl
theorem js1 {es:List Ent} {hid:List (Nat×Nat)}:sel es (j::js) hid=ob (jd3 es j) (fun e=>ob (sel es js hid) (fun l=>Ent.casesOn (motive:=fun _=>Option (List (Nat×Nat))) e (fun iv _=>some (iv++l)))):=by
 show ob (jd3 es j) (fun e=>ob (sel es js hid) (fun l=>Ent.casesOn (motive:=fun _=>Option (List (Nat×Nat))) e (fun iv _=>some (jgi iv l))))=_
 simp only[jct]
def fpV:AV->List Nat
 | .s (.ptr b _)=>[b]
 | _=>[]
theorem jyz {b:Nat}:fpV (.s (.ptr b o))=[b]:=rfl
theorem j6p {cs:List SV}:fpV (.s (.cp cs))=[]:=rfl
theorem jwa {es:List Ent} {dst:Option Nat} {n:Nat} {x:Od} {l:List (IOper×Option (List Nat))}:WD F ((.mk dst (.a (.load n agg x)) none,some js)::l) st es fr h Q=obP (sel es js h.hid) (fun hid'=>obP (ev st fr x) (fun p=>obP (jmr (h.hide h.next hid') n agg p) (fun v=>WD F l (v::st) (.mk [] (some (fpV p))::es) (jcs fr dst v) h Q))):=by
 cases h with
 | mk k t lo hid =>
 rw[j6b (x:=ob (sel es js hid) (fun hid'=>ob (ev st fr x) (fun p=>ob (jmr (.mk k t k hid') n agg p) (fun v=>some (DR.mk v (.mk k t lo hid) (.mk [] (some (fpV p)))))))) (fun cl=>?_)]
 .refine propext ⟨fun⟨p,h1,h2⟩=>?_,fun⟨hid',h0,q,h1,v,h2,h3⟩=>⟨.mk v (.mk k t lo hid) (.mk [] (some (fpV q))),jaa.2 ⟨hid',h0,jaa.2 ⟨q,h1,jaa.2 ⟨v,h2,rfl⟩⟩⟩,h3⟩⟩
  obtain⟨hid',h3,h4⟩:=jaa.1 h1
  obtain⟨q,h5,h6⟩:=jaa.1 h4
  obtain⟨v,h7,h8⟩:=jaa.1 h6
  cases h8
  exact⟨hid',h3,q,h5,v,h7,h2⟩
 .show jl8 cl st fr es (.mk k t lo hid) (.a (.load n agg x)) js=_
  show ob (sel es js hid) (fun hid'=>Cls.casesOn (motive:=fun _=>Option DR) (jvd (ob (ev st fr x) (fun v=>jez v (fun b _=>some (Cls.load b)) (fun _=>some .quiet))) (fun c=>c))
   (jmv cl st fr k t lo k hid hid' (.a (.load n agg x)) (fun n'=>.mk [(k,n')] (some [])))
   (fun x'=>jmv cl st fr k t lo k hid hid' (.a (.load n agg x)) (fun _=>.mk [] (some [x'])))
   (fun b=>oif (jja es js b) (oif (Nat.ble lo b) (ob (Hp.get (.mk k t lo hid') b) (fun _=>jmv cl st fr k t lo lo hid hid' (.a (.load n agg x)) (fun n'=>.mk [(b,Nat.succ b),(k,n')] none))) none) none)
   (jmv cl st fr k t lo k hid hid' (.a (.load n agg x)) (fun _=>.mk [] (some [])))
   (jmv cl st fr k t lo k hid hid' (.a (.load n agg x)) (fun n'=>.mk [(k,n')] none)))=_
  congr 1
  funext hid'
  have key:∀ e:Nat->Ent,jmv cl st fr k t lo k hid hid' (.a (.load n agg x)) e=ob (ev st fr x) (fun p=>ob (jmr (.mk k t k hid') n agg p) (fun v=>some (DR.mk v (.mk k t lo hid) (e k)))):=fun e=>by
   show ob (aop cl st fr (.mk k t k hid') (.load n agg x)) _=_
   rw[jio (show AO.calls (.load n agg x)=false from rfl),j0x]
   cases ev st fr x with
   | none=>rfl
   | some p =>
    show ob (ob (jmr (.mk k t k hid') n agg p) _) _=ob (jmr (.mk k t k hid') n agg p) _
    cases jmr (.mk k t k hid') n agg p<;>rfl
  have k1:=key (fun n'=>.mk [(k,n')] none)
  have k3:=key (fun _=>.mk [] (some []))
  have k2:=fun b=>key (fun _=>.mk [] (some [b]))
  cases hx:ev st fr x with
  | none =>
   rw[hx] at k1
   exact k1
  | some p =>
   rw[hx] at k1 k3
   simp only[hx] at k2
   cases p with
   | s p =>
    cases p with
    | ptr b o=>exact k2 b
    | cp cs=>exact k3
    | _=>exact k1
   | _=>exact k1
theorem jqo {es:List Ent} {dst:Option Nat} {e:TypeId} {size:Nat} {len:Nat} {ps:List (Nat×Nat×Od)} {l:List (IOper×Option (List Nat))}:WD F ((.mk dst (.a (.bslice e size z len ps)) none,some js)::l) st es fr h Q=obP (sel es js h.hid) (fun hid'=>obP (fill st fr ps z) (fun cs=>jap hid' h.next=false/\WD F l (.s (.slice h.next 0 len len true size)::st) (.mk [(h.next,h.next+1)] (some [])::es) (jcs fr dst (.s (.slice h.next 0 len len true size))) (h.push (.arr cs e)) Q)):=by
 cases h with
 | mk k t lo hid =>
 rw[j6b (x:=ob (sel es js hid) (fun hid'=>ob (fill st fr ps z) (fun cs=>oif (jap hid' k) none (some (DR.mk (.s (.slice k 0 len len true size)) ((Hp.mk k t lo hid).push (.arr cs e)) (.mk [(k,k+1)] (some []))))))) (fun cl=>?_)]
 .refine propext ⟨fun⟨p,h1,h2⟩=>?_,fun⟨hid',h0,cs,h1,h2,h3⟩=>⟨DR.mk (.s (.slice k 0 len len true size)) ((Hp.mk k t lo hid).push (.arr cs e)) (.mk [(k,k+1)] (some [])),jaa.2 ⟨hid',h0,jaa.2 ⟨cs,h1,?_⟩⟩,h3⟩⟩
  .obtain ⟨hid',h3,h4⟩:=jaa.1 h1
   obtain⟨cs,h5,h6⟩:=jaa.1 h4
   rw[jax] at h6
   split at h6
   .cases h6
   .rename_i h7
    cases h6
    exact⟨hid',h3,cs,h5,Bool.eq_false_iff.2 h7,h2⟩
  .have h2':jap hid' k=false:=h2
   rw[h2'];rfl
 .show jl8 cl st fr es (.mk k t lo hid) (.a (.bslice e size z len ps)) js=_
  show ob (sel es js hid) (fun hid'=>ob (ob (fill st fr ps z) (fun cs=>oif (jap hid' k) none (ok (.s (.slice k 0 len len true size)) (Hp.mk (Nat.succ k) (t.put (Nat.succ k) k (some (.arr cs e))) k hid')))) (fun p=>Hp.casesOn (motive:=fun _=>Option DR) p.2 (fun n' t' _ _=>some (.mk p.1 (.mk n' t' lo hid) (.mk [(k,n')] (some []))))))=_
  congr 1
  funext hid'
  cases fill st fr ps z with
  | none=>rfl
  | some cs =>
   show ob (oif (jap hid' k) none _) _=oif (jap hid' k) none _
   cases jap hid' k<;>rfl
end
section
variable {F:Fns} {s:St} {st fr:List AV} {h h':Hp} {Q:Ex->St->Prop} {l:List IOper} {dst:Option Nat} {v w:AV} {m:List (IOper×Option (List Nat))} {es:List Ent}
def zpO (F:Fns) (x:Option AV) (dst:Option Nat) (l:List IOper) (st fr:List AV) (h:Hp) (Q:Ex->St->Prop):Prop:=obP x (fun v=>WO F l (v::st) (jcs fr dst v) h Q)
theorem js2:zpO F (some v) dst l st fr h Q=WO F l (v::st) (jcs fr dst v) h Q:=jcf
def zmO (F:Fns) (x:R) (dst:Option Nat) (l:List IOper) (st fr:List AV) (Q:Ex->St->Prop):Prop:=obP x (fun p=>WO F l (p.1::st) (jcs fr dst p.1) p.2 Q)
theorem js3:zmO F (some (v,h)) dst l st fr Q=WO F l (v::st) (jcs fr dst v) h Q:=jcf
def qgl (F:Fns) (dst:Option Nat) (l:List IOper) (st fr:List AV) (Q:Ex->St->Prop) (v:AV) (h:Hp):Prop:=WO F l (v::st) (jcs fr dst v) h Q
theorem js4:qgl F dst l st fr Q v h=WO F l (v::st) (jcs fr dst v) h Q:=rfl
def zkO (F:Fns) (x:Option (List AV)) (f:FuncId) (dst:Option Nat) (l:List IOper) (st fr:List AV) (h:Hp) (Q:Ex->St->Prop):Prop:=obP x (fun vs=>WC F f vs h (qgl F dst l st fr Q))
theorem js5 {f:FuncId}:zkO F (some vs) f dst l st fr h Q=WC F f vs h (qgl F dst l st fr Q):=jcf
def zgO (F:Fns) (x:Option AV) (t:Bool) (dst:Option Nat) (op:IOp) (l:List IOper) (st fr:List AV) (h:Hp) (Q:Ex->St->Prop):Prop:=gP x t (WO F (.mk dst op none::l) st fr h Q) (WO F l (.undef::st) (jcs fr dst .undef) h Q)
theorem js6 {b:Bool} {op:IOp}:zgO F (some (.s (.bool b))) t dst op l st fr h Q=if b=t then WO F (.mk dst op none::l) st fr h Q else WO F l (.undef::st) (jcs fr dst .undef) h Q:=j59
theorem jo9 {op:IOp}:zgO F (some .undef) t dst op l st fr h Q=WO F l (.undef::st) (jcs fr dst .undef) h Q:=j0w
def zcO (F:Fns) (x:Option AV) (a b:IC) (fr:List AV) (h:Hp) (Q:Ex->St->Prop):Prop:=qq7 x (W F a (.mk fr h) Q) (W F b (.mk fr h) Q)
theorem js7 {b:Bool} {x y:IC}:zcO F (some (.s (.bool b))) x y fr h Q=if b=true then W F x (.mk fr h) Q else W F y (.mk fr h) Q:=j54
theorem jy0 {c:Od} {x y:IC}:W F (.cond c x y) (.mk fr h) Q=zcO F (ev [] fr c) x y fr h Q:=qm2
theorem jy1 {o:PO}:WO F (.mk dst (.p o) none::l) st fr h Q=zpO F (pop st fr o) dst l st fr h Q:=qf7
theorem jy2 {f:FuncId} {as:List Od}:WO F (.mk dst (.a (.call f as)) none::l) st fr h Q=zkO F (evs st fr as) f dst l st fr h Q:=qf8
theorem js8 {op:IOp}:WO F (.mk dst op (some (i,t))::l) st fr h Q=zgO F (jd3 st i) t dst op l st fr h Q:=qbb
theorem js9 {x:Od} {as:List Od} {f:FuncId} {caps:List (Nat×Nat)} (hx:ev st fr x=some (.s (.func f caps))):WO F (.mk dst (.a (.callv x as)) none::l) st fr h Q=zkO F (ob (evs st fr as) (fun vs=>some (vs++jfk caps))) f dst l st fr h Q:=by
 rw[qba]
 refine propext ⟨fun⟨g,cs,h1,vs,h2,h3⟩=>?_,fun⟨vs,h1,h2⟩=>?_⟩
 .rw [hx] at h1;cases h1
  exact⟨_,jaa.2 ⟨vs,h2,rfl⟩,h3⟩
 .obtain ⟨us,h3,h4⟩:=jaa.1 h1
  cases h4
  exact⟨f,caps,hx,us,h3,h2⟩
def zpD (F:Fns) (x:Option AV) (e:Ent) (dst:Option Nat) (m:List (IOper×Option (List Nat))) (st:List AV) (es:List Ent) (fr:List AV) (h:Hp) (Q:Ex->St->Prop):Prop:=obP x (fun v=>WD F m (v::st) (e::es) (jcs fr dst v) h Q)
theorem jta {e:Ent}:zpD F (some v) e dst m st es fr h Q=WD F m (v::st) (e::es) (jcs fr dst v) h Q:=jcf
def zmD (F:Fns) (x:R) (dst:Option Nat) (m:List (IOper×Option (List Nat))) (st:List AV) (es:List Ent) (fr:List AV) (Q:Ex->St->Prop):Prop:=obP x (fun p=>WD F m (p.1::st) (.mk [] (some [])::es) (jcs fr dst p.1) p.2 Q)
theorem jtb:zmD F (some (v,h)) dst m st es fr Q=WD F m (v::st) (.mk [] (some [])::es) (jcs fr dst v) h Q:=jcf
def qbj (F:Fns) (dst:Option Nat) (m:List (IOper×Option (List Nat))) (st:List AV) (es:List Ent) (fr:List AV) (Q:Ex->St->Prop) (v:AV) (h:Hp):Prop:=WD F m (v::st) (.mk [] (some [])::es) (jcs fr dst v) h Q
theorem jtc:qbj F dst m st es fr Q v h=WD F m (v::st) (.mk [] (some [])::es) (jcs fr dst v) h Q:=rfl
def zkD (F:Fns) (x:Option (List AV)) (f:FuncId) (dst:Option Nat) (m:List (IOper×Option (List Nat))) (st:List AV) (es:List Ent) (fr:List AV) (h:Hp) (Q:Ex->St->Prop):Prop:=obP x (fun vs=>WC F f vs h (qbj F dst m st es fr Q))
theorem jtd {f:FuncId}:zkD F (some vs) f dst m st es fr h Q=WC F f vs h (qbj F dst m st es fr Q):=jcf
def zgD (F:Fns) (x:Option AV) (t:Bool) (dst:Option Nat) (op:IOp) (o:Option (List Nat)) (m:List (IOper×Option (List Nat))) (st:List AV) (es:List Ent) (fr:List AV) (h:Hp) (Q:Ex->St->Prop):Prop:=gP x t (WD F ((.mk dst op none,o)::m) st es fr h Q) (WD F m (.undef::st) (.mk [] (some [])::es) (jcs fr dst .undef) h Q)
theorem jte {b:Bool} {op:IOp} {o:Option (List Nat)}:zgD F (some (.s (.bool b))) t dst op o m st es fr h Q=if b=t then WD F ((.mk dst op none,o)::m) st es fr h Q else WD F m (.undef::st) (.mk [] (some [])::es) (jcs fr dst .undef) h Q:=j59
theorem jpa {op:IOp} {o:Option (List Nat)}:zgD F (some .undef) t dst op o m st es fr h Q=WD F m (.undef::st) (.mk [] (some [])::es) (jcs fr dst .undef) h Q:=j0w
theorem jy3 {o:PO}:WD F ((.mk dst (.p o) none,none)::m) st es fr h Q=zpD F (pop st fr o) (.mk [] (some [])) dst m st es fr h Q:=qf9
theorem jy4 {f:FuncId} {as:List Od}:WD F ((.mk dst (.a (.call f as)) none,none)::m) st es fr h Q=zkD F (evs st fr as) f dst m st es fr h Q:=qga
theorem jtf {op:IOp} {o:Option (List Nat)}:WD F ((.mk dst op (some (i,t)),o)::m) st es fr h Q=zgD F (jd3 st i) t dst op o m st es fr h Q:=qbc
def qtk (F:Fns) (x:Option (List (Nat×Nat))) (o:Option AV) (dst:Option Nat) (m:List (IOper×Option (List Nat))) (st:List AV) (es:List Ent) (fr:List AV) (h:Hp) (Q:Ex->St->Prop):Prop:=obP x (fun _=>zpD F o (.mk [(h.next,h.next)] (some [])) dst m st es fr h Q)
theorem jpb {x:List (Nat×Nat)} {o:Option AV}:qtk F (some x) o dst m st es fr h Q=zpD F o (.mk [(h.next,h.next)] (some [])) dst m st es fr h Q:=jcf
theorem jhj {o:PO}:WD F ((.mk dst (.p o) none,some js)::m) st es fr h Q=qtk F (sel es js h.hid) (pop st fr o) dst m st es fr h Q:=jv6
def qre (F:Fns) (x:Option (List (Nat×Nat))) (n:Nat) (agg:Bool) (p:Option AV) (dst:Option Nat) (m:List (IOper×Option (List Nat))) (st:List AV) (es:List Ent) (fr:List AV) (h:Hp) (Q:Ex->St->Prop):Prop:=obP x (fun hid'=>obP p (fun p=>zpD F (jmr (h.hide h.next hid') n agg p) (.mk [] (some (fpV p))) dst m st es fr h Q))
theorem jpc {x:List (Nat×Nat)} {n:Nat}:qre F (some x) n agg (some w) dst m st es fr h Q=zpD F (jmr (h.hide h.next x) n agg w) (.mk [] (some (fpV w))) dst m st es fr h Q:=by
 unfold qre;rw[jcf,jcf]
theorem jhk {n:Nat} {x:Od}:WD F ((.mk dst (.a (.load n agg x)) none,some js)::m) st es fr h Q=qre F (sel es js h.hid) n agg (ev st fr x) dst m st es fr h Q:=jwa
def qqd (F:Fns) (x:Option (List (Nat×Nat))) (cs:Option (List SV)) (e:TypeId) (size len:Nat) (dst:Option Nat) (m:List (IOper×Option (List Nat))) (st:List AV) (es:List Ent) (fr:List AV) (h:Hp) (Q:Ex->St->Prop):Prop:=obP x (fun hid'=>obP cs (fun cs=>jap hid' h.next=false/\WD F m (.s (.slice h.next 0 len len true size)::st) (.mk [(h.next,h.next+1)] (some [])::es) (jcs fr dst (.s (.slice h.next 0 len len true size))) (h.push (.arr cs e)) Q))
theorem jj0 {x:List (Nat×Nat)} {cs:List SV} {e:TypeId} {size len:Nat} (hx:jap x h.next=false):qqd F (some x) (some cs) e size len dst m st es fr h Q=WD F m (.s (.slice h.next 0 len len true size)::st) (.mk [(h.next,h.next+1)] (some [])::es) (jcs fr dst (.s (.slice h.next 0 len len true size))) (h.push (.arr cs e)) Q:=by
 unfold qqd;rw[jcf,jcf];exact propext ⟨fun h=>h.2,fun h=>⟨hx,h⟩⟩
theorem jy5 {cs:List SV} {e:TypeId} {size len:Nat}:qqd F (some []) (some cs) e size len dst m st es fr h Q=WD F m (.s (.slice h.next 0 len len true size)::st) (.mk [(h.next,h.next+1)] (some [])::es) (jcs fr dst (.s (.slice h.next 0 len len true size))) (h.push (.arr cs e)) Q:=jj0 rfl
theorem jfx {e:TypeId} {size:Nat} {len:Nat} {ps:List (Nat×Nat×Od)}:WD F ((.mk dst (.a (.bslice e size z len ps)) none,some js)::m) st es fr h Q=qqd F (sel es js h.hid) (fill st fr ps z) e size len dst m st es fr h Q:=jqo
def qt6 (F:Fns) (x:Option (List (Nat×Nat))) (u:AV) (dst:Option Nat) (m:List (IOper×Option (List Nat))) (st:List AV) (es:List Ent) (fr:List AV) (h:Hp) (Q:Ex->St->Prop):Prop:=obP x (fun _=>WD F m (u::st) (.mk [(h.next,h.next)] none::es) (jcs fr dst u) h Q)
theorem jpd {x:List (Nat×Nat)} {u:AV}:qt6 F (some x) u dst m st es fr h Q=WD F m (u::st) (.mk [(h.next,h.next)] none::es) (jcs fr dst u) h Q:=jcf
theorem j6q {e:TypeId}:WO F (.mk dst (.a (.new e z)) none::l) st fr h Q=zmO F (jex st fr h (.new e z)) dst l st fr Q:=jju rfl
theorem j6r {e:TypeId}:WD F ((.mk dst (.a (.new e z)) none,none)::m) st es fr h Q=zmD F (jex st fr h (.new e z)) dst m st es fr Q:=jjv rfl
theorem j6s {e:TypeId} {x:Od}:WO F (.mk dst (.a (.box e x)) none::l) st fr h Q=zmO F (jex st fr h (.box e x)) dst l st fr Q:=jju rfl
theorem j6t {e:TypeId} {x:Od}:WD F ((.mk dst (.a (.box e x)) none,none)::m) st es fr h Q=zmD F (jex st fr h (.box e x)) dst m st es fr Q:=jjv rfl
theorem jpe {e:TypeId} {size:Nat} {len:Nat} {ps:List (Nat×Nat×Od)}:WO F (.mk dst (.a (.bslice e size z len ps)) none::l) st fr h Q=zmO F (jex st fr h (.bslice e size z len ps)) dst l st fr Q:=jju rfl
theorem jpf {e:TypeId} {size:Nat} {len:Nat} {ps:List (Nat×Nat×Od)}:WD F ((.mk dst (.a (.bslice e size z len ps)) none,none)::m) st es fr h Q=zmD F (jex st fr h (.bslice e size z len ps)) dst m st es fr Q:=jjv rfl
theorem jly {e:TypeId} {size:Nat} {x y:Od}:WO F (.mk dst (.a (.mkslice e size bytes z x y)) none::l) st fr h Q=zmO F (jex st fr h (.mkslice e size bytes z x y)) dst l st fr Q:=jju rfl
theorem jlz {e:TypeId} {size:Nat} {x y:Od}:WD F ((.mk dst (.a (.mkslice e size bytes z x y)) none,none)::m) st es fr h Q=zmD F (jex st fr h (.mkslice e size bytes z x y)) dst m st es fr Q:=jjv rfl
theorem jy6 {n:Nat} {x:Od}:WO F (.mk dst (.a (.load n agg x)) none::l) st fr h Q=zmO F (jex st fr h (.load n agg x)) dst l st fr Q:=jju rfl
theorem jy7 {n:Nat} {x:Od}:WD F ((.mk dst (.a (.load n agg x)) none,none)::m) st es fr h Q=zmD F (jex st fr h (.load n agg x)) dst m st es fr Q:=jjv rfl
theorem jtg {n:Nat} {x y:Od}:WO F (.mk dst (.a (.store n x y)) none::l) st fr h Q=zmO F (jex st fr h (.store n x y)) dst l st fr Q:=jju rfl
theorem jth {n:Nat} {x y:Od}:WD F ((.mk dst (.a (.store n x y)) none,none)::m) st es fr h Q=zmD F (jex st fr h (.store n x y)) dst m st es fr Q:=jjv rfl
theorem j6u {e:TypeId} {size:Nat} {x y:Od}:WO F (.mk dst (.a (.app e size bytes x y)) none::l) st fr h Q=zmO F (jex st fr h (.app e size bytes x y)) dst l st fr Q:=jju rfl
theorem j6v {e:TypeId} {size:Nat} {x y:Od}:WD F ((.mk dst (.a (.app e size bytes x y)) none,none)::m) st es fr h Q=zmD F (jex st fr h (.app e size bytes x y)) dst m st es fr Q:=jjv rfl
theorem jy8 {size:Nat} {x y:Od}:WO F (.mk dst (.a (.copy size x y)) none::l) st fr h Q=zmO F (jex st fr h (.copy size x y)) dst l st fr Q:=jju rfl
theorem jy9 {size:Nat} {x y:Od}:WD F ((.mk dst (.a (.copy size x y)) none,none)::m) st es fr h Q=zmD F (jex st fr h (.copy size x y)) dst m st es fr Q:=jjv rfl
theorem jti {x:Od}:WO F (.mk dst (.a (.clear z x)) none::l) st fr h Q=zmO F (jex st fr h (.clear z x)) dst l st fr Q:=jju rfl
theorem jtj {x:Od}:WD F ((.mk dst (.a (.clear z x)) none,none)::m) st es fr h Q=zmD F (jex st fr h (.clear z x)) dst m st es fr Q:=jjv rfl
def qtl (o:BO) (x y:Option AV):Option AV:=ob x (fun a=>ob y (fun b=>svc none a (fun a=>svc none b (fun b=>jec o a b))))
theorem j6w {o:BO} {x y:Od}:pop st fr (.bin o x y)=qtl o (ev st fr x) (ev st fr y):=rfl
theorem jpg {o:BO} {a b:SV}:qtl o (some (.s a)) (some (.s b))=jec o a b:=rfl
def qrf (off:Nat) (x:Option AV):Option AV:=ob x (fun v=>jez v (fun b o=>some (.s (.ptr b (o+off)))) (fun cs=>some (.s (.cp (jci off cs)))))
theorem j6x {off:Nat} {x:Od}:pop st fr (.fld off x)=qrf off (ev st fr x):=rfl
theorem jtk {off b:Nat}:qrf off (some (.s (.ptr b o)))=some (.s (.ptr b (o+off))):=rfl
theorem jza {off:Nat} {cs:List SV}:qrf off (some (.s (.cp cs)))=some (.s (.cp (jci off cs))):=rfl
def qgm (x:Option AV):Option AV:=ob x (fun v=>jez v (fun b o=>some (.s (.ptr b o))) (fun cs=>some (.s (.cp cs))))
theorem jzb {x:Od}:pop st fr (.nchk x)=qgm (ev st fr x):=rfl
theorem jph {b:Nat}:qgm (some (.s (.ptr b o)))=some (.s (.ptr b o)):=rfl
theorem jtl {cs:List SV}:qgm (some (.s (.cp cs)))=some (.s (.cp cs)):=rfl
def qtm (x:Option AV):Option AV:=ob x jxu
theorem j6y {x:Od}:pop st fr (.len x)=qtm (ev st fr x):=rfl
theorem jpi:qtm (some v)=jxu v:=rfl
def qtn (size:Nat) (x y:Option AV):Option AV:=ob x (fun v=>ob y (fun w=>jsz size v w))
theorem j6z {size:Nat} {x i:Od}:pop st fr (.ixs size x i)=qtn size (ev st fr x) (ev st fr i):=rfl
theorem jpj {size:Nat}:qtn size (some v) (some w)=jsz size v w:=rfl
def qto (n size:Nat) (x y:Option AV):Option AV:=ob x (fun v=>ob y (fun w=>qde n size v w))
theorem j60 {n size:Nat} {x i:Od}:pop st fr (.ixa n size x i)=qto n size (ev st fr x) (ev st fr i):=rfl
theorem jpk {n size:Nat}:qto n size (some v) (some w)=qde n size v w:=rfl
def qm6 (x:Option AV) (a b:Od) (st fr:List AV):Option AV:=ob x (fun v=>jif v (fun t=>ev st fr (oif t a b)))
theorem jzc {c a b:Od}:pop st fr (.pick c a b)=qm6 (ev st fr c) a b st fr:=rfl
theorem jl0 {a b:Od}:qm6 (some (.s (.bool t))) a b st fr=if t=true then ev st fr a else ev st fr b:=by cases t<;>rfl
def qtp (i:Nat) (x:Option AV):Option AV:=ob x (fun v=>AV.casesOn (motive:=fun _=>Option AV) v (fun _=>none) (fun _=>none) (fun l=>ob (jd3 l i) (fun p=>jf2 p.1 p.2)) none none)
theorem j61 {x:Od}:pop st fr (.ext i x)=qtp i (ev st fr x):=rfl
def mk1 (p:Option (Bool×List SV)):Option AV:=ob p (fun p=>jf2 p.1 p.2)
theorem jtm {a:Bool} {l:List SV}:mk1 (some (a,l))=jf2 a l:=rfl
theorem jtn {l:List (Bool×List SV)}:qtp i (some (.tup l))=mk1 (jd3 l i):=rfl
def ldR (h:Hp) (agg:Bool) (cs:Option (List SV)):R:=ob cs (fun cs=>ob (jf2 agg cs) (fun v=>ok v h))
theorem qgn {cs:List SV}:ldR h true (some cs)=some (.agg cs,h):=rfl
theorem qgo {a:SV}:ldR h false (some [a])=some (.s a,h):=rfl
def qgp (h:Hp) (n:Nat) (agg:Bool) (x:Option AV):R:=ob x (fun v=>ob (jmr h n agg v) (fun v=>ok v h))
theorem jzd {n:Nat} {x:Od}:jex st fr h (.load n agg x)=qgp h n agg (ev st fr x):=j0x
theorem jpl {n b:Nat}:qgp h n agg (some (.s (.ptr b o)))=ldR h agg (rdB (h.get b) o n):=by
 show ob (ob (rdB (h.get b) o n) _) _=_
 rw[qgh];rfl
theorem jto {n:Nat} {cs:List SV}:qgp h n agg (some (.s (.cp cs)))=ldR h agg (jby n cs):=by
 show ob (ob (jby n cs) _) _=_
 rw[qgh];rfl
def jid (h:Hp) (n:Nat) (x y:Option AV):R:=ob x (fun p=>ob y (fun v=>j6o h n p v))
theorem jtp {n:Nat} {x v:Od}:jex st fr h (.store n x v)=jid h n (ev st fr x) (ev st fr v):=rfl
def stR (h:Option Hp):R:=ob h (fun h=>ok .undef h)
theorem jtq:stR (some h)=some (.undef,h):=rfl
theorem qbk {b:Nat} {x:SV} (k:Ok h):jid h 1 (some (.s (.ptr b o))) (some (.s x))=stR (wrB h b (h.get b) o [x]):=qbi k
theorem j30 {n b:Nat} {cs:List SV} (k:Ok h) (hn:cs.length=n):jid h n (some (.s (.ptr b o))) (some (.agg cs))=stR (wrB h b (h.get b) o cs):=j3w k hn
def qtq (h:Hp) (e:TypeId) (size bytes:Nat) (x y:Option AV):R:=ob x (fun v=>ob y (fun w=>jo8 h e size bytes v w))
theorem j62 {e:TypeId} {size:Nat} {x y:Od}:jex st fr h (.app e size bytes x y)=qtq h e size bytes (ev st fr x) (ev st fr y):=rfl
theorem jpm {e:TypeId} {size:Nat}:qtq h e size bytes (some v) (some w)=jo8 h e size bytes v w:=rfl
def bsO (h:Hp) (e:TypeId) (size len:Nat) (x:Option (List SV)):R:=ob x (fun cs=>some (.s (.slice h.next 0 len len true size),h.push (.arr cs e)))
theorem jtr {e:TypeId} {size len:Nat} {cs:List SV}:bsO h e size len (some cs)=some (.s (.slice h.next 0 len len true size),h.push (.arr cs e)):=rfl
theorem j63 {e:TypeId} {size:Nat} {len:Nat} {ps:List (Nat×Nat×Od)} (k:Ok h):jex st fr h (.bslice e size z len ps)=bsO h e size len (fill st fr ps z):=j3x k
def qqe (h:Hp) (e:TypeId) (x:Option AV):R:=ob x (fun v=>cel v (fun cs=>some (.s (.ptr h.next 0),h.push (.arr cs e))))
theorem qm7 {e:TypeId} {x:Od} (k:Ok h):jex st fr h (.box e x)=qqe h e (ev st fr x):=qgj k
theorem j64 {e:TypeId} {x:SV}:qqe h e (some (.s x))=some (.s (.ptr h.next 0),h.push (.arr [x] e)):=rfl
theorem jts {e:TypeId} {cs:List SV}:qqe h e (some (.agg cs))=some (.s (.ptr h.next 0),h.push (.arr cs e)):=rfl
def qtr (h:Hp) (e:TypeId) (size bytes:Nat) (z:List SV) (x y:Option AV):R:=ob x (fun v=>ob y (fun u=>qm5 h e size bytes z v u))
theorem jl1 {e:TypeId} {size:Nat} {l c:Od}:jex st fr h (.mkslice e size bytes z l c)=qtr h e size bytes z (ev st fr l) (ev st fr c):=rfl
theorem jpn {e:TypeId} {size:Nat}:qtr h e size bytes z (some v) (some w)=qm5 h e size bytes z v w:=rfl
def re1 (h:Hp) (x:Option (Bool×List SV)):R:=ob x (fun p=>ob (jf2 p.1 p.2) (fun v=>some (v,h)))
theorem j65 {r:IR}:jb9 (.mk fr h) [r]=re1 h (jmn fr h r):=j3y
theorem qgq {a:SV}:re1 h (some (false,[a]))=some (.s a,h):=rfl
theorem qgr {l:List SV}:re1 h (some (true,l))=some (.agg l,h):=rfl
def reT (g:Option AV):Option (Bool×List SV):=ob g qt5
theorem j66:jmn fr h (.tmp g)=reT (jd3 fr g):=rfl
theorem qgs {x:SV}:reT (some (.s x))=some (false,[x]):=rfl
theorem jze {x:List SV}:reT (some (.agg x))=some (true,x):=rfl
def reC (h:Hp) (n:Nat) (agg:Bool) (g:Option AV):Option (Bool×List SV):=ob g (fun v=>ju9 v (fun b off=>ob (rdB (h.get b) off n) (fun cs=>some (agg,cs))))
theorem jzf {n:Nat}:jmn fr h (.cell g n agg)=reC h n agg (jd3 fr g):=rfl
def reP (agg:Bool) (x:Option (List SV)):Option (Bool×List SV):=ob x (fun cs=>some (agg,cs))
theorem jtt {cs:List SV}:reP agg (some cs)=some (agg,cs):=rfl
theorem jzg {n b:Nat}:reC h n agg (some (.s (.ptr b o)))=reP agg (rdB (h.get b) o n):=rfl
def qrg (x:R) (Q:AV->Hp->Prop):Prop:=obP x (fun p=>Q p.1 p.2)
theorem jpo {Q:AV->Hp->Prop}:qrg (some (v,h)) Q=Q v h:=jcf
theorem jit {res:List IR} {Q:AV->Hp->Prop}:qdc res Q .normal s=qrg (jb9 s res) Q:=rfl
theorem jtu {res:List IR} {Q:AV->Hp->Prop}:qdc res Q .ret s=qrg (jb9 s res) Q:=rfl
def re2 (h:Hp) (x:Option (List (Bool×List SV))):R:=ob x (fun vs=>some (.tup vs,h))
theorem jtv {l:List (Bool×List SV)}:re2 h (some l)=some (.tup l,h):=rfl
theorem j67 {r r':IR} {k:List IR}:jb9 (.mk fr h) (r::r'::k)=re2 h (jf4 fr h (r::r'::k)):=j3z
theorem jch {size b off len mc sz:Nat} {ex:Bool} (hm:1<len):jsz size (.s (.slice b off len mc ex sz)) (vi 1)=some (.s (.ptr b (off+size))):=by
 have:=ja7 (size:=size) (b:=b) (off:=off) (len:=len) (mc:=mc) (sz:=sz) (ex:=ex) hm
 rw[f3y] at this;exact this
theorem jds {n size b off:Nat} (hm:0<n):qde n size (.s (.ptr b off)) (vi 0)=some (.s (.ptr b off)):=by
 have:=jcq (n:=n) (size:=size) (b:=b) (off:=off) hm
 rw[f2o,f1i] at this;exact this
theorem jdt {n size b off:Nat} (hm:1<n):qde n size (.s (.ptr b off)) (vi 1)=some (.s (.ptr b (off+size))):=by
 have:=jcq (n:=n) (size:=size) (b:=b) (off:=off) hm
 rw[f3y] at this;exact this
theorem jem {n size:Nat} {cs:List SV} (hm:0<n):qde n size (.s (.cp cs)) (vi 0)=some (.s (.cp cs)):=by
 have:=je5 (n:=n) (size:=size) (cs:=cs) hm
 rw[f2o] at this;exact this
theorem jen {n size:Nat} {cs:List SV} (hm:1<n):qde n size (.s (.cp cs)) (vi 1)=some (.s (.cp (jci size cs))):=by
 have:=je5 (n:=n) (size:=size) (cs:=cs) hm
 rw[f3y] at this;exact this
theorem jtw [k:Ok h]:h.hid=[]:=k.hid
theorem jj1 [k:Ok h] {n:Nat} {hid:List (Nat×Nat)}:(h.hide lo hid).get n=if jap hid n=true then none else h.get n:=qbh k
theorem jj2 [k:Ok h] {e:TypeId} {size:Nat} {len:Nat} {ps:List (Nat×Nat×Od)}:jex st fr h (.bslice e size z len ps)=bsO h e size len (fill st fr ps z):=j63 k
theorem jtx [k:Ok h] {e:TypeId} {x:Od}:jex st fr h (.box e x)=qqe h e (ev st fr x):=qm7 k
theorem jj3 [k:Ok h] {e:TypeId}:jex st fr h (.new e z)=some (.s (.ptr h.next 0),h.push (.arr z e)):=qgi k
theorem jty [k:Ok h] {b:Nat} {x:SV}:jid h 1 (some (.s (.ptr b o))) (some (.s x))=stR (wrB h b (h.get b) o [x]):=qbk k
theorem jj4 [k:Ok h] {n b:Nat} {cs:List SV} (hn:cs.length=n):jid h n (some (.s (.ptr b o))) (some (.agg cs))=stR (wrB h b (h.get b) o cs):=j30 k hn
theorem jj5 [k:Ok h] {b:Nat} {t:SV}:jid h 2 (some (.s (.ptr b o))) (some (.agg [t,u]))=stR (wrB h b (h.get b) o [t,u]):=jj4 rfl
theorem jj6 [k:Ok h] {b:Nat} {t v:SV}:jid h 3 (some (.s (.ptr b o))) (some (.agg [t,u,v]))=stR (wrB h b (h.get b) o [t,u,v]):=jj4 rfl
theorem jj7 [k:Ok h] {b:Nat} {t v w:SV}:jid h 4 (some (.s (.ptr b o))) (some (.agg [t,u,v,w]))=stR (wrB h b (h.get b) o [t,u,v,w]):=jj4 rfl
theorem jj8 [k:Ok h] {b:Nat} {t v w x:SV}:jid h 5 (some (.s (.ptr b o))) (some (.agg [t,u,v,w,x]))=stR (wrB h b (h.get b) o [t,u,v,w,x]):=jj4 rfl
theorem jj9 [k:Ok h] {b:Nat} {t v w x y z:SV}:jid h 7 (some (.s (.ptr b o))) (some (.agg [t,u,v,w,x,y,z]))=stR (wrB h b (h.get b) o [t,u,v,w,x,y,z]):=jj4 rfl
theorem jka [k:Ok h] {x:AB} {n:Nat}:(h.push x).get n=if n=h.next then some x else h.get n:=jal k
theorem jkb [k:Ok h] {b n:Nat} {x:Option AB} (hb:1<=b):(h.put b x).get n=if n=b then x else h.get n:=jai k hb
def mkL (agg:Bool) (x:Option (List SV)):Option AV:=ob x (fun cs=>jf2 agg cs)
theorem qgt {cs:List SV}:mkL true (some cs)=some (.agg cs):=rfl
theorem qgu {a:SV}:mkL false (some [a])=some (.s a):=rfl
theorem j68 {n b:Nat}:jmr h n agg (.s (.ptr b o))=mkL agg (rdB (h.get b) o n):=rfl
theorem qgv {n:Nat} {cs:List SV}:jmr h n agg (.s (.cp cs))=mkL agg (jby n cs):=rfl
theorem qgw {a b:Int} (h1:0<=a) (h3:0<b):0<=a % b/\a % b<=a:=by
 have h2:=Int.emod_add_mul_ediv a b
 have h:=Int.ediv_nonneg h1 (Int.le_of_lt h3)
 have h4:=Int.mul_nonneg (Int.le_of_lt h3) h
 exact⟨f3s a (by omega),by omega⟩
theorem je7 {a b:Int} (h1:0<=a) (h2:a<=9223372036854775807) (h3:0<b):jec .rem (.int .i64 a) (.int .i64 b)=some (vi (a % b)):=by
 have:=qgw h1 h3
 rw[jyw,if_neg (by omega),f3a h1,jh2 (by omega) (by omega)]
theorem j69 {a b:Int} (h1:-9223372036854775808<=a) (h2:a<=9223372036854775807) (h3:0<b):-9223372036854775808<=a.tdiv b/\a.tdiv b<=9223372036854775807:=by
 have h:=Int.natAbs_tdiv_le_natAbs a b
 rcases(by omega:a<0∨0<=a) with h4 | h4
 .have h5:a.tdiv b<=0:=by
   obtain⟨c,rfl⟩:∃ c,a=-c:=⟨-a,by omega⟩
   rw[Int.neg_tdiv]
   have:=Int.tdiv_nonneg (a:=c) (b:=b) (by omega) (Int.le_of_lt h3)
   omega
  omega
 .omega
theorem jiu {a b:Int} (h1:-9223372036854775808<=a) (h2:a<=9223372036854775807) (h3:0<b):jec .quo (.int .i64 a) (.int .i64 b)=some (vi (a.tdiv b)):=by
 have:=j69 h1 h2 h3
 rw[qge,if_neg (by omega),jh2 this.1 this.2]
theorem jiv {a n:Int} {k:IntKind} (h1:0<=n) (h2:n<=63):jec .shr (.int .i64 a) (.int k n)=some (vi (a / 2 ^ n.toNat)):=by
 obtain⟨m,rfl⟩:=Int.eq_ofNat_of_zero_le h1
 exact qgf (by omega)
theorem jeo {a n:Nat}:(a=a+(n+1))=False:=eq_false (by omega)
theorem jep {a n:Nat}:(a+(n+1)=a)=False:=eq_false (by omega)
theorem qbl {e:TypeId} {x:SV} (ok:Ok h) (h1:bytes<=1000):qm5 h e 1 bytes [x] (vi 2) (vi 2)=some (.s (.slice h.next 0 2 2 true 1),h.push (.arr [x,x] e)) :=
 jyx (m:=2) ok (by omega) (by omega)
theorem jgp [ok:Ok h] {e:TypeId} {x:SV} (h1:bytes<=1000):qm5 h e 1 bytes [x] (vi 2) (vi 2)=some (.s (.slice h.next 0 2 2 true 1),h.push (.arr [x,x] e)):=qbl ok h1
theorem ji6 {a b:Nat} (h:a≠b):(a=b)=False:=eq_false h
theorem jdm {a b:Nat} (h:b<a):(a<=b)=False:=eq_false (by omega)
theorem jdn {a b:Nat} (h:b<=a):(a<b)=False:=eq_false (by omega)
theorem ji7 {a b:Nat} (h:a<=b):(a<=b)=True:=eq_true h
theorem ji8 {a b:Nat} (h:a<b):(a<b)=True:=eq_true h
theorem qt7 {a b:Int} (h:a<=b):(a<=b)=True:=eq_true h
theorem qt8 {a b:Int} (h:a<b):(a<b)=True:=eq_true h
def qgx (F:Fns) (dst:Option Nat) (m:List (IOper×Option (List Nat))) (st:List AV) (es:List Ent) (fr:List AV) (h:Hp) (Q:Ex->St->Prop) (v:AV) (h':Hp):Prop:=WD F m (v::st) (.mk [(h.next,h'.next)] none::es) (jcs fr dst v) (.mk h'.next h'.tr h.lo h.hid) Q
def zkH (F:Fns) (x:Option (List (Nat×Nat))) (vs:Option (List AV)) (f:FuncId) (dst:Option Nat) (m:List (IOper×Option (List Nat))) (st:List AV) (es:List Ent) (fr:List AV) (h:Hp) (Q:Ex->St->Prop):Prop:=obP x (fun hid'=>obP vs (fun vs=>WC F f vs (h.hide h.next hid') (qgx F dst m st es fr h Q)))
theorem jtz {x:List (Nat×Nat)} {f:FuncId}:zkH F (some x) (some vs) f dst m st es fr h Q=WC F f vs (h.hide h.next x) (qgx F dst m st es fr h Q):=by
 unfold zkH;rw[jcf,jcf]
theorem jl2 {x:List (Nat×Nat)}:qgx F dst m st es fr h Q v (h.hide lo x)=WD F m (v::st) (.mk [(h.next,h.next)] none::es) (jcs fr dst v) h Q:=by cases h;rfl
theorem jgq {f:FuncId} {as:List Od}:WD F ((.mk dst (.a (.call f as)) none,some js)::m) st es fr h Q=zkH F (sel es js h.hid) (evs st fr as) f dst m st es fr h Q:=by
 cases h with
 | mk k t lo hid =>
 rw[jlj]
 have key:∀ n v h' e,jxs (jbt F (run F n)) st fr es (.mk k t lo hid) (.a (.call f as)) none (some js)=some (.mk v h' e)↔∃ x vs h1,sel es js hid=some x/\evs st fr as=some vs/\jbt F (run F n) f vs (.mk k t k x)=some (v,h1)/\h'=.mk h1.next h1.tr lo hid/\e=.mk [(k,h1.next)] none:=fun n v h' e=>by
  have e0:jxs (jbt F (run F n)) st fr es (.mk k t lo hid) (.a (.call f as)) none (some js)=ob (sel es js hid) (fun x=>ob (ob (evs st fr as) (fun vs=>jbt F (run F n) f vs (.mk k t k x))) (fun p=>Hp.casesOn (motive:=fun _=>Option DR) p.2 (fun n' t' _ _=>some (.mk p.1 (.mk n' t' lo hid) (.mk [(k,n')] none))))):=rfl
  rw[e0]
  constructor
  .intro h1
   obtain⟨x,hx,h2⟩:=jaa.1 h1
   obtain⟨p,hp,h3⟩:=jaa.1 h2
   obtain⟨vs,hvs,h4⟩:=jaa.1 hp
   obtain⟨v1,⟨n1,t1,l1,d1⟩⟩:=p
   cases h3
   exact⟨x,vs,_,hx,hvs,h4,rfl,rfl⟩
  .rintro ⟨x,vs,⟨n1,t1,l1,d1⟩,hx,hvs,h4,rfl,rfl⟩
   exact jaa.2 ⟨x,hx,jaa.2 ⟨(v,.mk n1 t1 l1 d1),jaa.2 ⟨vs,hvs,h4⟩,rfl⟩⟩
 refine propext ⟨fun⟨n,v,h',e,h1,h2⟩=>?_,fun⟨x,hx,vs,hvs,n,v,h1,h2,h3⟩=>⟨n,v,_,_,(key n v _ _).2 ⟨x,vs,h1,hx,hvs,h2,rfl,rfl⟩,h3⟩⟩
 obtain⟨x,vs,h3,hx,hvs,h4,rfl,rfl⟩:=(key n v h' e).1 h1
 exact⟨x,hx,vs,hvs,n,v,h3,h4,h2⟩
theorem jdd {a:Nat} {n:Nat}:((a:Int) / 2 ^ n)=((a / 2 ^ n:Nat):Int):=by
 rw[Int.natCast_ediv,f3q];rfl
theorem jde:(4+(i:Int)).toNat=4+i:=by omega
theorem jdf:(9+(i:Int)).toNat=9+i:=by omega
theorem jdg:(i:Int).toNat=i:=by omega
theorem jiw {a:Nat}:decide ((a:Int) % 2=1)=decide (a % 2=1):=decide_eq_decide.2 (by omega)
theorem je8 {a:Nat}:(a:Int).tdiv 4=((a / 4:Nat):Int):=rfl
theorem je9 {a:Nat}:(a:Int).tdiv 5=((a / 5:Nat):Int):=rfl
theorem jgc {x:Option AB} {off sz:Nat} {c:SV} (hr:rdB x off sz=some row) (hj:row[j]?=some c):rdB x (off+j) 1=some [c]:=by
 cases x with
 | none=>cases hr
 | some x =>
  cases x with
  | map va es=>cases hr
  | arr cs ty =>
   rw[je4,jbz] at hr ⊢
   obtain⟨h1,rfl⟩:=(ja4 _).1 hr
   have hjs:j<sz:=by
    rcases f0g j sz with h | h
    .exact h
    .rw [f0o (by simp;omega)] at hj;cases hj
   have hj2:cs[off+j]?=some c:=by
    rw[f2c,if_pos hjs,f1g] at hj;exact hj
   have hl:off+j<cs.length:=by
    rcases f0g (off+j) cs.length with h | h
    .exact h
    .rw [f0o h] at hj2;cases hj2
   refine(ja4 _).2 ⟨by simp;omega,?_⟩
   have e:cs.drop (off+j)=c::cs.drop (off+j+1):=by
    rw[f1d hl]
    rw[f0a hl] at hj2
    rw[Option.some.inj hj2]
   rw[e];rfl
def mmV (mx:Bool) (x y:Option AV):Option AV:=ob x (fun a=>ob y (fun b=>jmu a (fun k m=>jmu b (fun k' n=>oif (Nat.beq (ikn k) (ikn k')) (some (.s (.int k (oif (ile m n) (oif mx n m) (oif mx m n))))) none))))
theorem qgy {mx:Bool} {x y:Od}:pop st fr (.mm mx x y)=mmV mx (ev st fr x) (ev st fr y):=rfl
theorem jzh {a b:Int}:mmV false (some (.s (.int .i64 a))) (some (.s (.int .i64 b)))=some (vi (if a<=b then a else b)):=by
 show some (AV.s (.int .i64 (oif (ile a b) a b)))=_
 rw[jax,jee];simp only[decide_eq_true_eq]
theorem jzi {a b:Int}:mmV true (some (.s (.int .i64 a))) (some (.s (.int .i64 b)))=some (vi (if a<=b then b else a)):=by
 show some (AV.s (.int .i64 (oif (ile a b) b a)))=_
 rw[jax,jee];simp only[decide_eq_true_eq]
end
theorem qt9:type_of% @Int.cast_ofNat_Int:=@Int.cast_ofNat_Int
theorem qua:type_of% @Int.natCast_zero:=@Int.natCast_zero
theorem qub:type_of% @Int.natCast_one:=@Int.natCast_one
theorem quc:type_of% @decide_eq_true_eq:=@decide_eq_true_eq
theorem qud:type_of% @decide_eq_false_iff_not:=@decide_eq_false_iff_not
theorem que:type_of% @Bool.false_eq_true:=@Bool.false_eq_true
theorem quf:type_of% @and_true:=@and_true
theorem qug:type_of% @true_and:=@true_and
theorem quh:type_of% @List.cons_append:=@List.cons_append
theorem qui:type_of% @List.nil_append:=@List.nil_append
theorem qrh:type_of% @decide_true:=@decide_true
theorem qri:type_of% @decide_false:=@decide_false
theorem qrj:type_of% @Bool.not_true:=@Bool.not_true
theorem qrk:type_of% @Bool.not_false:=@Bool.not_false
theorem qrl:type_of% @Nat.add_zero:=@Nat.add_zero
theorem qrm:type_of% @Nat.zero_add:=@Nat.zero_add
theorem qrn:type_of% @Option.some.injEq:=@Option.some.injEq
theorem qro:type_of% @Bool.true_eq_false:=@Bool.true_eq_false
theorem qrp:type_of% @not_true_eq_false:=@not_true_eq_false
theorem qrq:type_of% @not_false_eq_true:=@not_false_eq_true
theorem qrr:type_of% @Hp.next_push:=@Hp.next_push
theorem qrs:type_of% @Hp.next_put:=@Hp.next_put
theorem qrt:type_of% @Nat.add_assoc:=@Nat.add_assoc
attribute [go_sem] jgq jtz jl2 j55 qf6 j56 qa9 jyl jy0 js7 jsl j57 j58 jy1 js2 jy2 js5 js4 js8 js6 jo9 js3 j6a jy3 jta jtb jy4 jtd jtc jtf jte jpa jhj jpb jhk jpc jfx jpd jy5 jj0 jfq jlh jol jin jom jsk jhg jli jon j6q j6s jpe jly jy6 jtg j6u jy8 jti j6r j6t jpf jlz jy7 jth j6v jy9 jtj qq8 qq9 qra jym jsm jor jos jot jou jov jow jip jiq qrb qrc jbi qgc jox jsn jll jso jlm qgd jyn j6d j6e j6f jsp jln jlp jlq jlr joy jsq joz jo0 jls jhh jdk jo1 jyo jyp qgy jzh jzi j6g jzc jl0 jo2 jsr jo3 j6w jpg jyq jyr j6x jtk jza jss j61 jtn jtm jzb jph jtl jst jjx jsu jo4 jlt jir jo5 jsv jsw j6y jpi jsx jjy jlu jo6 jyt jyu jyv jiu je7 jiv j6i j6j j6k j6l j6m j6n j6z jpj j60 jpk j65 qgq qgr j66 qgs jze jzf jtt jzg jpo jit jtu jlw je6 jlx j67 jtv qgk je4 jo7 jzd jpl jto qgn qgo jtp jtq jl1 jpn j62 jpm jtr j64 jts jyz j6p jyy js1 jlv jis j68 qgv qgt qgu jeo jep jch jcq je5 jds jdt jem jen jtw jj1 jj2 jtx jj3 jty jj5 jj6 jj7 jj8 jj9 jj4 jka jkb jgp jcg ja7 qt9 qua qub quc qud que quf qug quh qui qrh qri qrj qrk qrl qrm qrn qro qrp qrq qrr qrs qrt
end
end Go.Proofs.Ytalbjjoppndjjaa.Ev
