/- Open runs: what operations answer at values that are known in part. No program in sight. -/
import Derived.Test.YtkeenpohacdanaaOp
namespace Go.Proofs.Ytkeenpohacdanaa.Ev
noncomputable section
open Go Go.RowKit
set_option linter.all false
variable {t va agg ex' okf:Bool} {rows:List (List SV)} {vs:List AV} {sig:List Bool} {js:List Nat} {z xs row:List SV} {g i j o b' lo o' mc' sz' bytes:Nat} {u:SV}
abbrev vi (n:Int):AV:=.s (.int .i64 n)
abbrev vb (b:Bool):AV:=.s (.bool b)
abbrev si (n:Int):SV:=.int .i64 n
section
variable {st fr:List AV} {h:Hp} {α β:Type}
theorem qs7:ev st fr (.l i)=jei st i:=rfl
theorem qs8:ev st fr (.g i)=jei fr i:=rfl
theorem qs9 {v:AV}:ev st fr (.c v)=some v:=rfl
theorem jzm:evs st fr []=some []:=rfl
theorem jtn {o:Od} {l:List Od}:evs st fr (o::l)=ob (ev st fr o) (fun v=>ob (evs st fr l) (fun r=>some (v::r))):=rfl
theorem jpg {a:α} {l:List α}:jei (a::l) 0=some a:=rfl
theorem jph {a:α} {l:List α} {n:Nat}:jei (a::l) (n+1)=jei l n:=rfl
theorem jpi {a x:α} {l:List α}:jrk (a::l) 0 x=x::l:=rfl
theorem jpj {a x:α} {l:List α} {n:Nat}:jrk (a::l) (n+1) x=a::jrk l n x:=rfl
theorem jpk {v:AV}:jcc fr none v=fr:=rfl
theorem jpl {d:Nat} {v:AV}:jcc fr (some d) v=jrk fr d v:=rfl
theorem ji8:jc3 0=[]:=rfl
theorem ji9 {n:Nat}:jc3 (n+1)=.undef::jc3 n:=rfl
theorem qta {a:α} {f:α->Option β}:ob (some a) f=f a:=rfl
theorem qtb {f:α->Option β}:ob none f=none:=rfl
theorem jbj {b:Bool} {x y:α}:oif b x y=if b=true then x else y:=by cases b<;>rfl
theorem qib {e:Option β} {x:SV} {f:SV->Option β}:svc e (.s x) f=f x:=rfl
theorem jpm {e:Option β} {f:SV->Option β}:svc e .undef f=e:=rfl
theorem jto {k:IntKind} {n:Int} {f:IntKind->Int->Option β}:qbo (.int k n) f=f k n:=rfl
theorem jl4 {b:Bool} {f:Bool->Option β}:jm7 (.bool b) f=f b:=rfl
theorem jtp {k:IntKind} {n:Int} {f:IntKind->Int->Option β}:jk6 (.s (.int k n)) f=f k n:=rfl
theorem jl5 {b:Bool} {f:Bool->Option β}:jiz (.s (.bool b)) f=f b:=rfl
theorem qic {x:SV} {f:List SV->Option β}:cel (.s x) f=f [x]:=rfl
theorem jzn {l:List SV} {f:List SV->Option β}:cel (.agg l) f=f l:=rfl
theorem j7i {a:SV}:je4 false [a]=some (.s a):=rfl
theorem j7j {l:List SV}:je4 true l=some (.agg l):=rfl
theorem j7k {x:SV} {f:List SV->Option β}:jym false (.s x) f=f [x]:=rfl
theorem jtq {l:List SV} {f:List SV->Option β}:jym true (.agg l) f=f l:=rfl
theorem jl6 {l:List α}:jbq 0 l=some []:=rfl
theorem jl7 {a:α} {l:List α} {n:Nat}:jbq (n+1) (a::l)=ob (jbq n l) (fun x=>some (a::x)):=rfl
theorem jl8 {l:List α}:jbv 0 l=l:=rfl
theorem jl9 {a:α} {l:List α} {n:Nat}:jbv (n+1) (a::l)=jbv n l:=rfl
theorem jpn {n:Nat}:jbv n ([]:List α)=[]:=by cases n<;>rfl
theorem jtr:jcl ([]:List α)=0:=rfl
theorem jpo {a:α} {l:List α}:jcl (a::l)=jcl l+1:=rfl
theorem jpp {l:List α}:jn2 [] l=some l:=rfl
theorem jma {x a:α} {xs l:List α}:jn2 (x::xs) (a::l)=ob (jn2 xs l) (fun y=>some (x::y)):=rfl
theorem jh0 {xs l:List α}:jbr 0 xs l=jn2 xs l:=rfl
theorem jdo {a:α} {xs l:List α} {n:Nat}:jbr (n+1) xs (a::l)=ob (jbr n xs l) (fun y=>some (a::y)):=rfl
theorem jpq {a:Nat}:Nat.beq a a=true:=f1t a
theorem jzo {a b:Nat}:(Nat.beq a b=true)=(a=b):=jgi a b
theorem jzp {a b:Nat}:(Nat.ble a b=true)=(a<=b):=jsz a b
theorem j7l {x:Od}:pop st fr (.mv x)=ev st fr x:=rfl
theorem jpr {ps:List (Nat×Nat×Od)}:pop st fr (.build z ps)=ob (fill st fr ps z) (fun cs=>some (.agg cs)):=rfl
theorem jts {cs:List SV}:fill st fr [] cs=some cs:=rfl
theorem jps {off n:Nat} {o:Od} {ps:List (Nat×Nat×Od)} {cs:List SV}:fill st fr ((off,n,o)::ps) cs=ob (ev st fr o) (fun v=>cel v (fun xs=>oif (Nat.beq (jcl xs) n) (ob (jbr off xs cs) (fill st fr ps)) none)):=rfl
theorem jzq {x:Od}:pop st fr (.not x)=ob (ev st fr x) (fun v=>jiz v (fun b=>some (.s (.bool (!b))))):=by
 show ob (ev st fr x) (fun v=>jiz v (fun b=>some (AV.s (.bool (jhi b)))))=_
 congr 1;funext v;congr 1;funext b;cases b<;>rfl
theorem jzr {x:Od}:pop st fr (.neg x)=ob (ev st fr x) (fun v=>jk6 v (fun k n=>j5l k (-n))):=rfl
theorem jtt {off n:Nat} {x:Od}:pop st fr (.fval off n agg x)=ob (ev st fr x) (fun v=>AV.casesOn (motive:=fun _=>Option AV) v (fun _=>none) (fun cs=>ob (jbq n (jbv off cs)) (fun cs=>je4 agg cs)) (fun _=>none) none none):=rfl
theorem jtu {k:IntKind} {x:Od}:pop st fr (.conv k x)=ob (ev st fr x) (fun v=>jk6 v (fun _ n=>j34 k n)):=rfl
theorem jkd {f:FuncId} {cs:List Od}:pop st fr (.mkfun f cs)=ob (evs st fr cs) (fun vs=>ob (qee vs) (fun ps=>some (.s (.func f ps)))):=rfl
theorem jtv:qee []=some []:=rfl
theorem jpt {b:Nat} {l:List AV}:qee (.s (.ptr b o)::l)=ob (qee l) (fun r=>some ((b,o)::r)):=rfl
theorem jmb:je5 []=[]:=rfl
theorem jja {b:Nat} {l:List (Nat×Nat)}:je5 ((b,o)::l)=.s (.ptr b o)::je5 l:=rfl
theorem jpu {b:Nat} {f:Nat->Nat->Option β} {g:List SV->Option β}:je3 (.s (.ptr b o)) f g=f b o:=rfl
theorem jtw {cs:List SV} {f:Nat->Nat->Option β} {g:List SV->Option β}:je3 (.s (.cp cs)) f g=g cs:=rfl
theorem jtx {b:Nat} {f:Nat->Nat->Option β}:jrl (.s (.ptr b o)) f=f b o:=rfl
def jsg (v:AV):Option AV:=jcr v (some (.s (.int .i64 0))) (fun _ _ n _ _ _=>some (.s (.int .i64 (Int.ofNat n)))) (fun rows=>some (.s (.int .i64 (Int.ofNat (jcl rows))))) (some (.s (.int .i64 0)))
theorem jty:jsg (.s .nilSlice)=some (vi 0):=rfl
theorem jke:jsg (.s (.lst rows))=some (vi rows.length):=by
 show some (AV.s (.int .i64 (Int.ofNat (jcl rows))))=_
 rw[jbf];rfl
theorem jmc {b n mc sz:Nat} {e:Bool}:jsg (.s (.slice b o n mc e sz))=some (vi n):=rfl
def j7m (n:Int):Option AV:=if -9223372036854775808<=n/\n<=9223372036854775807 then some (vi n) else none
theorem qcr {n:Int} (h1:-9223372036854775808<=n) (h2:n<=9223372036854775807):inR .i64 n=true:=by
 cases n with
 | ofNat m=>exact(jsz m 9223372036854775807).symm▸(by have:(m:Int)<=9223372036854775807:=h2
                                                      omega)
 | negSucc m=>exact(jsz m 9223372036854775807).symm▸(by have:-9223372036854775808<=Int.negSucc m:=h1
                                                        omega)
theorem jpv {n:Int}:j5l .i64 n=j7m n:=by
 unfold j7m
 show oif (inR .i64 n) (some (AV.s (.int .i64 n))) none=_
 split
 .rename_i h;rw[qcr h.1 h.2];rfl
 .rename_i h
  cases e:inR .i64 n with
  | false=>rfl
  | true =>
   rcases jdm e with⟨_,a,b⟩ | ⟨e,_⟩ | ⟨e,_⟩
   .exact absurd ⟨a,b⟩ h
   .cases e
   .cases e
theorem jih {n:Int} (h1:-9223372036854775808<=n) (h2:n<=9223372036854775807):j7m n=some (vi n):=if_pos ⟨h1,h2⟩
def w64 (n:Int):Int:=IntKind.wrap .i64 n
theorem jad {n:Int} (h1:-9223372036854775808<=n) (h2:n<=9223372036854775807):w64 n=n:=jjs (qcr h1 h2)
theorem jzs {n:Int}:qbm .i64 n=some (vi (w64 n)):=by
 show oif (inR .i64 n) (some (AV.s (.int .i64 n))) (some (AV.s (.int .i64 (IntKind.wrap .i64 n))))=_
 cases e:inR .i64 n with
 | true=>rw[show w64 n=n from jjs e];rfl
 | false=>rfl
variable {a b:Int}
theorem jzt:jde .add (.int .i64 a) (.int .i64 b)=some (vi (w64 (a+b))):=by
 rw[←jzs];show qbm .i64 (qed a b)=_;rw[js0]
theorem jzu:jde .sub (.int .i64 a) (.int .i64 b)=some (vi (w64 (a - b))):=by rw[←jzs];rfl
theorem jzv:jde .mul (.int .i64 a) (.int .i64 b)=some (vi (w64 (a*b))):=by rw[←jzs];rfl
theorem qid:jde .quo (.int .i64 a) (.int .i64 b)=if b=0 then none else j7m (a.tdiv b):=by
 rw[←jpv]
 show oif (ieq b 0) none (j5l .i64 (a.tdiv b))=_
 rw[jap,jcy];simp only[decide_eq_true_eq]
theorem jzw:jde .rem (.int .i64 a) (.int .i64 b)=if b=0 then none else j7m (a.tmod b):=by
 rw[←jpv]
 show oif (ieq b 0) none (j5l .i64 (a.tmod b))=_
 rw[jap,jcy];simp only[decide_eq_true_eq]
theorem j7n:jde .eq (.int .i64 a) (.int .i64 b)=some (vb (decide (a=b))):=by
 show some (AV.s (.bool (ieq a b)))=_;rw[jcy]
theorem j7o:jde .ne (.int .i64 a) (.int .i64 b)=some (vb (decide (a≠b))):=by
 show some (AV.s (.bool (jhi (ieq a b))))=_;rw[jcy,jgb];congr 3;by_cases h:a=b<;>simp[h]
theorem j7p:jde .lt (.int .i64 a) (.int .i64 b)=some (vb (decide (a<b))):=by
 show some (AV.s (.bool (jhi (ile b a))))=_;rw[jdu,jgb];congr 3;by_cases h:a<b<;>simp[h]
 omega
theorem j7q:jde .le (.int .i64 a) (.int .i64 b)=some (vb (decide (a<=b))):=by
 show some (AV.s (.bool (ile a b)))=_;rw[jdu]
theorem j7r:jde .gt (.int .i64 a) (.int .i64 b)=some (vb (decide (b<a))):=by
 show some (AV.s (.bool (jhi (ile a b))))=_;rw[jdu,jgb];congr 3;by_cases h:b<a<;>simp[h]
 omega
theorem j7s:jde .ge (.int .i64 a) (.int .i64 b)=some (vb (decide (b<=a))):=by
 show some (AV.s (.bool (ile b a)))=_;rw[jdu]
theorem qie {n:Nat} {k:IntKind} (hn:n<=63):jde .shr (.int .i64 a) (.int k (n:Int))=some (vi (a / 2 ^ n)):=by
 have hs:qbn .i64 n=true:=by
  have hI:jn3 .i64=true:=rfl
  unfold qbn
  simp[jap,jsz,hn,hI]
 have e:jde .shr (.int .i64 a) (.int k (n:Int))=jv9 .shr .i64 a (n:Int):=by
  show oif (Nat.beq (ikn .i64) (ikn k)) (jv9 .shr .i64 a n) (oif true (jv9 .shr .i64 a n) none)=_
  cases Nat.beq (ikn .i64) (ikn k)<;>rfl
 rw[e]
 cases a with
 | ofNat m =>
  show oif (qbn .i64 n) (some (AV.s (.int .i64 (Int.ofNat (Nat.div m (Nat.pow 2 n)))))) none=_
  rw[hs]
  have:Int.ofNat (Nat.div m (Nat.pow 2 n))=Int.ofNat m / 2 ^ n:=by
   show((m / 2 ^ n:Nat):Int)=(m:Int) / 2 ^ n
   rw[Int.natCast_ediv,f3g];rfl
  rw[this];rfl
 | negSucc m =>
  show oif (qbn .i64 n) (some (AV.s (.int .i64 (Int.negSucc (Nat.div m (Nat.pow 2 n)))))) none=_
  rw[hs]
  have:Int.negSucc (Nat.div m (Nat.pow 2 n))=Int.negSucc m / 2 ^ n:=by
   obtain⟨q,hq⟩:∃ q,2 ^ n=q+1:=⟨2 ^ n - 1,by have:=Nat.two_pow_pos n;omega⟩
   have h2:(2:Int) ^ n=((q+1:Nat):Int):=by rw[←hq,f3g];rfl
   have h3:Nat.pow 2 n=q+1:=hq
   rw[h2,h3];rfl
  rw[this];rfl
theorem jg7 (h1:-9223372036854775808<=a) (h2:a<=9223372036854775807):jde .and (.int .i64 a) (.int .i64 1)=some (vi (a % 2)):=by
 have hr:=qcr h1 h2
 cases a with
 | ofNat m =>
  show oif (inR .i64 (.ofNat m)) (some (AV.s (.int .i64 (.ofNat (Nat.land m 1))))) none=_
  rw[hr]
  have:Int.ofNat (Nat.land m 1)=Int.ofNat m % 2:=by
   rw[show Nat.land m 1=m % 2 from f19 m];rfl
  rw[this];rfl
 | negSucc m =>
  show oif (inR .i64 (.negSucc m)) (some (AV.s (.int .i64 (.ofNat (Nat.xor 1 (Nat.land 1 m)))))) none=_
  rw[hr]
  have:Int.ofNat (Nat.xor 1 (Nat.land 1 m))=Int.negSucc m % 2:=by
   have e:Nat.land 1 m=m % 2:=(Nat.and_comm 1 m).trans (f19 m)
   rw[e]
   rcases Nat.mod_two_eq_zero_or_one m with h | h
   .rw [h];show(1:Int)=_;omega
   .rw [h];show(0:Int)=_;omega
  rw[this];rfl
theorem qif (h1:-9223372036854775808<=a) (h2:a<=9223372036854775807):jde .or (.int .i64 a) (.int .i64 1)=some (vi (a+(1 - a % 2))):=by
 have hr:=qcr h1 h2
 cases a with
 | ofNat m =>
  show oif (inR .i64 (.ofNat m)) (some (AV.s (.int .i64 (.ofNat (Nat.lor m 1))))) none=_
  rw[hr]
  have:Int.ofNat (Nat.lor m 1)=Int.ofNat m+(1 - Int.ofNat m % 2):=by
   have e:m ||| 1=m+(1 - m % 2):=by
    have h1:(m ||| 1) / 2=m / 2:=by rw[Nat.or_div_two];simp
    have h2:(m ||| 1) % 2=1:=by rw[Nat.or_mod_two_eq_one];simp
    omega
   show((m ||| 1:Nat):Int)=(m:Int)+(1 - (m:Int) % 2)
   rw[e];omega
  rw[this];rfl
 | negSucc m =>
  show oif (inR .i64 (.negSucc m)) (some (AV.s (.int .i64 (.negSucc (Nat.xor m (Nat.land m 1)))))) none=_
  rw[hr]
  have:Int.negSucc (Nat.xor m (Nat.land m 1))=Int.negSucc m+(1 - Int.negSucc m % 2):=by
   have e:m ^^^ (m &&& 1)=m - m % 2:=by
    have h1:(m ^^^ (m &&& 1)) / 2=m / 2:=by rw[Nat.xor_div_two,Nat.and_div_two];simp
    have h2:¬ (m ^^^ (m &&& 1)) % 2=1:=by
     have e:m &&& 1=m % 2:=f19 m
     rw[e,Nat.xor_mod_two_eq_one];omega
    omega
   show Int.negSucc (m ^^^ (m &&& 1))=_
   rw[e];omega
  rw[this];rfl
end
class Ok (h:Hp):Prop where
 hid:h.hid=[]
 lo:h.lo=0
 pos:1<=h.next
theorem jii {a b:Nat} (h:a<=b):Nat.ble a b=true:=by rw[jsz];exact h
theorem jen:Ok h0:=⟨rfl,rfl,f0e 1⟩
section
variable {h:Hp} {F:Fns} {st fr:List AV} {Q:Ex->St->Prop} {β:Type}
theorem ja1 {x:AB} (k:Ok h):Ok (h.push x):=⟨k.hid,k.lo,f2g k.pos⟩
theorem jao {b:Nat} {x:Option AB} (k:Ok h):Ok (h.put b x):=⟨by rw[Hp.hid_put];exact k.hid,by rw[Hp.lo_put];exact k.lo,by rw[Hp.next_put];exact k.pos⟩
instance iPush {x:AB} [k:Ok h]:Ok (h.push x):=ja1 k
instance iPut {b:Nat} {x:Option AB} [k:Ok h]:Ok (h.put b x):=jao k
theorem ja2 {x:AB} {n:Nat} (k:Ok h):(h.push x).get n=if n=h.next then some x else h.get n:=by
 rw[Hp.get_eq,Hp.get_eq,Hp.hid_push,k.hid]
 have e:jan [] n=false:=rfl
 rw[e]
 show(h.tr.put (Nat.succ h.next) h.next (some x)).get n=_
 split
 .rename_i hn;subst hn;exact jbs _ _ _ _ k.pos (jmv _)
 .rename_i hn;exact jby _ _ _ _ n k.pos (jmv _) hn
theorem jaj {b n:Nat} {x:Option AB} (k:Ok h) (hb:1<=b):(h.put b x).get n=if n=b then x else h.get n:=by
 rw[Hp.get_eq,Hp.get_eq,Hp.hid_put,k.hid,Hp.tr_put]
 have e:jan [] n=false:=rfl
 rw[e]
 show(h.tr.put (Nat.succ b) b x).get n=_
 split
 .rename_i hn;subst hn;exact jbs _ _ _ _ hb (jmv _)
 .rename_i hn;exact jby _ _ _ _ n hb (jmv _) hn
def Hp.hide (h:Hp) (lo:Nat) (hid:List (Nat×Nat)):Hp:=.mk h.next h.tr lo hid
theorem jmd {n:Nat}:jan [] n=false:=by cases n<;>rfl
theorem jjb {a b n:Nat} {l:List (Nat×Nat)}:jan ((a,b)::l) n=if a<=n/\n<b then true else jan l n:=by
 show oif (Nat.ble a n) (oif (Nat.ble (n+1) b) true (jan l n)) (jan l n)=_
 simp only[jap,jsz]
 by_cases h1:a<=n
 .by_cases h2:n+1<=b
  .rw [if_pos h1,if_pos h2,if_pos ⟨h1,h2⟩]
  .rw [if_pos h1,if_neg h2,if_neg (fun h=>h2 h.2)]
 .rw [if_neg h1,if_neg (fun h=>h1 h.1)]
theorem qcs {n:Nat} {hid:List (Nat×Nat)} (k:Ok h):(h.hide lo hid).get n=if jan hid n=true then none else h.get n:=by
 rw[Hp.get_eq,Hp.get_eq,k.hid];rfl
theorem jzx {cs:List SV} {ty:TypeId} {f:Nat->Hp->Option β} (k:Ok h):nw h cs ty f=f h.next (h.push (.arr cs ty)):=by
 cases h with
 | mk n t lo hid =>
  obtain rfl:hid=[]:=k.hid
  rfl
def rdB (x:Option AB) (off n:Nat):Option (List SV):=ob x (fun x=>AB.casesOn (motive:=fun _=>Option (List SV)) x (fun cs _=>jbq n (jbv off cs)) (fun _ _=>none))
theorem jgd {cs:List SV} {ty:TypeId} {off n:Nat}:rdB (some (.arr cs ty)) off n=jbq n (jbv off cs):=rfl
def wrB (h:Hp) (b:Nat) (x:Option AB) (off:Nat) (xs:List SV):Option Hp:=ob x (fun x=>AB.casesOn (motive:=fun _=>Option Hp) x (fun cs ty=>ob (jbr off xs cs) (fun cs'=>some (h.put b (some (.arr cs' ty))))) (fun _ _=>none))
theorem qig {b off:Nat} (k:Ok h):wr h b off xs=wrB h b (h.get b) off xs:=by
 show oif (Nat.ble h.lo b) _ none=_
 rw[k.lo];rfl
theorem jpw {b:Nat} {cs:List SV} {ty:TypeId} {off:Nat}:wrB h b (some (.arr cs ty)) off xs=ob (jbr off xs cs) (fun cs'=>some (h.put b (some (.arr cs' ty)))):=rfl
def jnd (h:Hp) (n:Nat) (agg:Bool) (v:AV):Option AV:=je3 v (fun b off=>ob (rd h b off n) (fun cs=>je4 agg cs)) (fun cs=>ob (jbq n cs) (fun cs=>je4 agg cs))
theorem qih {α γ:Type} {x:Option α} {f:α->Option β} {g:β->Option γ}:ob (ob x f) g=ob x (fun a=>ob (f a) g):=by cases x<;>rfl
theorem j2d {n:Nat} {x:Od}:jdy st fr h (.load n agg x)=ob (ev st fr x) (fun v=>ob (jnd h n agg v) (fun v=>ok v h)):=by
 show ob (ev st fr x) (fun v=>je3 v (fun b off=>ob (rd h b off n) (fun cs=>ob (je4 agg cs) (fun v=>ok v h))) (fun cs=>ob (jbq n cs) (fun cs=>ob (je4 agg cs) (fun v=>ok v h))))=_
 congr 1
 funext v
 cases v with
 | s v=>cases v<;>first | rfl | (show ob _ _=ob (ob _ _) _;rw[qih])
 | _=>rfl
def j7t (h:Hp) (n:Nat) (p v:AV):R:=jrl p (fun b off=>cel v (fun cs=>oif (Nat.beq (jcl cs) n) (ob (wr h b off cs) (fun h=>ok .undef h)) none))
theorem qct {b:Nat} {v:SV} (k:Ok h):j7t h 1 (.s (.ptr b o)) (.s v)=ob (wrB h b (h.get b) o [v]) (fun h=>ok .undef h):=by
 show ob (wr h b o [v]) _=_
 rw[qig k]
theorem j4z {n b:Nat} {cs:List SV} (k:Ok h) (hn:cs.length=n):j7t h n (.s (.ptr b o)) (.agg cs)=ob (wrB h b (h.get b) o cs) (fun h=>ok .undef h):=by
 show oif (Nat.beq (jcl cs) n) (ob (wr h b o cs) _) none=_
 rw[qig k,jbf,hn,f1t];rfl
theorem qii {e:TypeId} (k:Ok h):jdy st fr h (.new e z)=some (.s (.ptr h.next 0),h.push (.arr z e)):=by
 show nw h z e (fun n h=>ok (.s (.ptr n 0)) h)=_
 rw[jzx k];rfl
theorem qij {e:TypeId} {x:Od} (k:Ok h):jdy st fr h (.box e x)=ob (ev st fr x) (fun v=>cel v (fun cs=>some (.s (.ptr h.next 0),h.push (.arr cs e)))):=by
 show ob (ev st fr x) (fun v=>cel v (fun cs=>nw h cs e (fun n h=>ok (.s (.ptr n 0)) h)))=_
 congr 1;funext v;congr 1;funext cs;rw[jzx k];rfl
theorem j40 {e:TypeId} {size:Nat} {len:Nat} {ps:List (Nat×Nat×Od)} (k:Ok h):jdy st fr h (.bslice e size z len ps)=ob (fill st fr ps z) (fun cs=>some (.s (.slice h.next 0 len len true size),h.push (.arr cs e))):=by
 show ob (fill st fr ps z) (fun cs=>nw h cs e (fun n h=>ok (.s (.slice n 0 len len true size)) h))=_
 congr 1;funext cs;rw[jzx k];rfl
def qpi (h:Hp) (e:TypeId) (size bytes:Nat) (z:List SV) (l c:AV):R:=qeh l (fun m=>qeh c (fun k=>oif (Nat.ble m k) (oif (Nat.ble (Nat.mul bytes k) 1000000000) (oif (Nat.ble k 1000000000) (nw h (rep z k) e (fun b h=>ok (.s (.slice b 0 m k true size)) h)) none) none) none))
theorem jzy {e:TypeId} {size:Nat} {m:Nat} (k:Ok h) (h1:bytes*m<=1000000000) (h2:m<=1000000000):qpi h e size bytes z (vi m) (vi m)=some (.s (.slice h.next 0 m m true size),h.push (.arr (rep z m) e)):=by
 show oif (Nat.ble m m) (oif (Nat.ble (Nat.mul bytes m) 1000000000) (oif (Nat.ble m 1000000000) (nw h (rep z m) e _) none) none) none=_
 rw[jzx k,jii (f0e m),jii h2,show Nat.ble (Nat.mul bytes m) 1000000000=true from jii h1];rfl
def jxd (size:Nat) (v w:AV):Option AV:=jcr v none (fun b off len _ _ _=>ji0 w len (fun m=>some (.s (.ptr b (Nat.add off (Nat.mul m size))))))
 (fun rows=>ji0 w (jcl rows) (fun m=>ob (jei rows m) (fun row=>oif (Nat.beq (jcl row) size) (some (.s (.cp row))) none))) none
theorem jh1 {m n:Nat} {f:Nat->Option β} (hm:m<n):ji0 (vi (m:Int)) n f=f m:=by
 show oif (Nat.ble (Nat.succ m) n) (f m) none=_
 rw[jii (show Nat.succ m<=n from hm)];rfl
theorem ja8 {size b off len mc sz m:Nat} {ex:Bool} (hm:m<len):jxd size (.s (.slice b off len mc ex sz)) (vi (m:Int))=some (.s (.ptr b (off+m*size))):=jh1 (f:=fun m=>some (AV.s (.ptr b (Nat.add off (Nat.mul m size))))) hm
theorem jcj {size b off len mc sz:Nat} {ex:Bool} (hm:0<len):jxd size (.s (.slice b off len mc ex sz)) (vi 0)=some (.s (.ptr b off)):=by
 have:=jh1 (f:=fun m=>some (AV.s (.ptr b (Nat.add off (Nat.mul m size))))) hm
 refine this.trans ?_
 show some (AV.s (.ptr b (off+0*size)))=_
 rw[f15,f1j]
theorem j2e {size m:Nat} (hr:rows[m]?=some row) (hl:row.length=size):jxd size (.s (.lst rows)) (vi (m:Int))=some (.s (.cp row)):=by
 have hm:m<rows.length:=by
  rcases f0k m rows.length with h | h
  .exact h
  .rw [f0q h] at hr;cases hr
 have:=jh1 (f:=fun m=>ob (jei rows m) (fun row=>oif (Nat.beq (jcl row) size) (some (AV.s (.cp row))) none)) (show m<jcl rows by rw[jbf];exact hm)
 refine this.trans ?_
 rw[jce,hr]
 show oif (Nat.beq (jcl row) size) _ none=_
 rw[jbf,hl,f1t];rfl
def qes (n size:Nat) (v w:AV):Option AV:=je3 v (fun b off=>ji0 w n (fun m=>some (.s (.ptr b (Nat.add off (Nat.mul m size)))))) (fun cs=>ji0 w n (fun m=>some (.s (.cp (jbv (Nat.mul m size) cs)))))
theorem jcu {n size b off m:Nat} (hm:m<n):qes n size (.s (.ptr b off)) (vi (m:Int))=some (.s (.ptr b (off+m*size))):=jh1 (f:=fun m=>some (AV.s (.ptr b (Nat.add off (Nat.mul m size))))) hm
theorem jfb {n size m:Nat} {cs:List SV} (hm:m<n):qes n size (.s (.cp cs)) (vi (m:Int))=some (.s (.cp (jbv (m*size) cs))):=jh1 (f:=fun m=>some (AV.s (.cp (jbv (Nat.mul m size) cs)))) hm
def qvu (h:Hp) (e:TypeId) (size bytes b n m:Nat) (x:Option AB) (new:List SV):R :=
 jm9 bytes (Nat.add n m) (ob x (fun x=>AB.casesOn (motive:=fun _=>R) x (fun cs ty =>
  ob (jbq (Nat.mul n size) (jbv 0 cs)) (fun old=>(oif (Nat.ble h.lo b) (oif (Nat.beq ty e) (nw (h.put b none) (jg2 old new) e (fun k h=>ok (.s (.slice k 0 (Nat.add n m) (Nat.add n m) false size)) h)) none) none))) (fun _ _=>none)))
def jk7 (h:Hp) (e:TypeId) (size bytes:Nat) (v w:AV):R:=jcr w (qbk v (ok v h)) (fun b' off' m _ _ _=>ob (rd h b' off' (Nat.mul m size)) (fun new=>jys h e size bytes m v new))
 (fun rows=>ob (jrm size rows) (fun new=>jys h e size bytes (jcl rows) v new)) (qbk v (ok v h))
theorem jrd {e:TypeId} {size m:Nat}:jk7 h e size bytes (.s .nilSlice) (.s (.slice b' o' m mc' ex' sz'))=ob (rdB (h.get b') o' (m*size)) (fun new=>Nat.casesOn (motive:=fun _=>R) m (some (.s .nilSlice,h)) (fun _=>jm9 bytes m (nw h new e (fun k h=>ok (.s (.slice k 0 m m false size)) h)))):=rfl
theorem jtz {n:Nat} {x:R} (h1:n*bytes<=1000000000) (h2:n<=1000000000):jm9 bytes n x=x:=by
 show oif (Nat.ble (Nat.mul n bytes) 1000000000) (oif (Nat.ble n 1000000000) x none) none=_
 rw[show Nat.ble (Nat.mul n bytes) 1000000000=true from jii h1,jii h2];rfl
theorem jne {e:TypeId} {size b n m:Nat} (hm:1<=m):jk7 h e size bytes (.s (.slice b 0 n n false size)) (.s (.slice b' o' m mc' ex' sz'))=ob (rdB (h.get b') o' (m*size)) (fun new=>qvu h e size bytes b n m (h.get b) new):=by
 show ob (rdB (h.get b') o' (m*size)) (fun new=>oif (Nat.beq size size) (oif (Nat.ble (Nat.add n m) n) _ (jm9 bytes (Nat.add n m) (jn4 h e size b 0 n m false new))) none)=_
 congr 1
 funext new
 have e1:Nat.ble (Nat.add n m) n=false:=by
  cases e:Nat.ble (Nat.add n m) n with
  | false=>rfl
  | true=>rw[jsz] at e;have:n+m<=n:=e;omega
 rw[f1t]
 show oif (Nat.ble (Nat.add n m) n) _ _=_
 rw[e1]
 rfl
theorem qik {e:TypeId} {size b n m:Nat} {cs new:List SV} (k:Ok h) (hc:cs.length=n*size) (h1:(n+m)*bytes<=1000000000) (h2:n+m<=1000000000) :
 qvu h e size bytes b n m (some (.arr cs e)) new=some (.s (.slice h.next 0 (n+m) (n+m) false size),(h.put b none).push (.arr (cs++new) e)):=by
 show jm9 bytes (n+m) (ob (jbq (n*size) cs) (fun old=>oif (Nat.ble h.lo b) (oif (Nat.beq e e) (nw (h.put b none) (jg2 old new) e _) none) none))=_
 rw[jtz h1 h2,(ja7 _).2 ⟨f2q hc.symm,rfl⟩,←hc,f2z]
 show oif (Nat.ble h.lo b) (oif (Nat.beq e e) (nw (h.put b none) (jg2 cs new) e _) none) none=_
 rw[k.lo,f1t,jzx (jao k),jdf,Hp.next_put]
 rfl
def qwf (v:AV):Option (Bool×List SV):=AV.casesOn (motive:=fun _=>Option (Bool×List SV)) v (fun s=>some (false,[s])) (fun l=>some (true,l)) (fun _=>none) none none
theorem jme:jgh fr h []=some []:=rfl
theorem jfc {r:IR} {l:List IR}:jgh fr h (r::l)=ob (jnb fr h r) (fun v=>ob (jgh fr h l) (fun x=>some (v::x))):=rfl
theorem jmf:jcd (.mk fr h) []=some (.tup [],h):=rfl
theorem j41 {r:IR}:jcd (.mk fr h) [r]=ob (jnb fr h r) (fun p=>ob (je4 p.1 p.2) (fun v=>some (v,h))):=by
 show ob (ob (jnb fr h r) (fun v=>ob (some []) (fun x=>some (v::x)))) (fun vs=>List.casesOn (motive:=fun _=>R) vs (ok (.tup []) h) (fun p r=>List.casesOn (motive:=fun _=>R) r (ob (je4 p.1 p.2) (fun v=>ok v h)) (fun _ _=>ok (.tup vs) h)))=_
 cases jnb fr h r<;>rfl
theorem j42 {r r':IR} {l:List IR}:jcd (.mk fr h) (r::r'::l)=ob (jgh fr h (r::r'::l)) (fun vs=>some (.tup vs,h)):=by
 show ob (jgh fr h (r::r'::l)) (fun vs=>List.casesOn (motive:=fun _=>R) vs (ok (.tup []) h) (fun p r=>List.casesOn (motive:=fun _=>R) r (ob (je4 p.1 p.2) (fun v=>ok v h)) (fun _ _=>ok (.tup vs) h)))=_
 rw[jfc,jfc]
 cases jnb fr h r with
 | none=>rfl
 | some a=>cases jnb fr h r' with
  | none=>rfl
  | some b=>cases jgh fr h l<;>rfl
theorem qil {v:AV}:ok v h=some (v,h):=rfl
theorem jzz {es:List Ent} {hid:List (Nat×Nat)}:sel es [] hid=some hid:=rfl
theorem jt0 {es:List Ent} {hid:List (Nat×Nat)}:sel es (j::js) hid=ob (jei es j) (fun e=>ob (sel es js hid) (fun l=>Ent.casesOn (motive:=fun _=>Option (List (Nat×Nat))) e (fun iv _=>some (iv++l)))):=by
 show ob (jei es j) (fun e=>ob (sel es js hid) (fun l=>Ent.casesOn (motive:=fun _=>Option (List (Nat×Nat))) e (fun iv _=>some (jg2 iv l))))=_
 simp only[jdf]
def fpV:AV->List Nat
 | .s (.ptr b _)=>[b]
 | _=>[]
theorem jz0 {b:Nat}:fpV (.s (.ptr b o))=[b]:=rfl
theorem j7u {cs:List SV}:fpV (.s (.cp cs))=[]:=rfl
theorem jxe {es:List Ent} {dst:Option Nat} {n:Nat} {x:Od} {l:List (IOper×Option (List Nat))}:WD F ((.mk dst (.a (.load n agg x)) none,some js)::l) st es fr h Q=obP (sel es js h.hid) (fun hid'=>obP (ev st fr x) (fun p=>obP (jnd (h.hide h.next hid') n agg p) (fun v=>WD F l (v::st) (.mk [] (some (fpV p))::es) (jcc fr dst v) h Q))):=by
 cases h with
 | mk k t lo hid =>
 rw[j4y (x:=ob (sel es js hid) (fun hid'=>ob (ev st fr x) (fun p=>ob (jnd (.mk k t k hid') n agg p) (fun v=>some (DR.mk v (.mk k t lo hid) (.mk [] (some (fpV p)))))))) (fun cl=>?_)]
 .refine propext ⟨fun⟨p,h1,h2⟩=>?_,fun⟨hid',h0,q,h1,v,h2,h3⟩=>⟨.mk v (.mk k t lo hid) (.mk [] (some (fpV q))),jaa.2 ⟨hid',h0,jaa.2 ⟨q,h1,jaa.2 ⟨v,h2,rfl⟩⟩⟩,h3⟩⟩
  obtain⟨hid',h3,h4⟩:=jaa.1 h1
  obtain⟨q,h5,h6⟩:=jaa.1 h4
  obtain⟨v,h7,h8⟩:=jaa.1 h6
  cases h8
  exact⟨hid',h3,q,h5,v,h7,h2⟩
 .show jmt cl st fr es (.mk k t lo hid) (.a (.load n agg x)) js=_
  show ob (sel es js hid) (fun hid'=>Cls.casesOn (motive:=fun _=>Option DR) (jwf (ob (ev st fr x) (fun v=>je3 v (fun b _=>some (Cls.load b)) (fun _=>some .quiet))) (fun c=>c))
   (jna cl st fr k t lo k hid hid' (.a (.load n agg x)) (fun n'=>.mk [(k,n')] (some [])))
   (fun x'=>jna cl st fr k t lo k hid hid' (.a (.load n agg x)) (fun _=>.mk [] (some [x'])))
   (fun b=>oif (jjq es js b) (oif (Nat.ble lo b) (ob (Hp.get (.mk k t lo hid') b) (fun _=>jna cl st fr k t lo lo hid hid' (.a (.load n agg x)) (fun n'=>.mk [(b,Nat.succ b),(k,n')] none))) none) none)
   (jna cl st fr k t lo k hid hid' (.a (.load n agg x)) (fun _=>.mk [] (some [])))
   (jna cl st fr k t lo k hid hid' (.a (.load n agg x)) (fun n'=>.mk [(k,n')] none)))=_
  congr 1
  funext hid'
  have key:∀ e:Nat->Ent,jna cl st fr k t lo k hid hid' (.a (.load n agg x)) e=ob (ev st fr x) (fun p=>ob (jnd (.mk k t k hid') n agg p) (fun v=>some (DR.mk v (.mk k t lo hid) (e k)))):=fun e=>by
   show ob (aop cl st fr (.mk k t k hid') (.load n agg x)) _=_
   rw[ji7 (show AO.calls (.load n agg x)=false from rfl),j2d]
   cases ev st fr x with
   | none=>rfl
   | some p =>
    show ob (ob (jnd (.mk k t k hid') n agg p) _) _=ob (jnd (.mk k t k hid') n agg p) _
    cases jnd (.mk k t k hid') n agg p<;>rfl
  have k1:=key (fun n'=>.mk [(k,n')] none)
  have k3:=key (fun _=>.mk [] (some []))
  have k2:=fun b=>key (fun _=>.mk [] (some [b]))
  cases hx:ev st fr x with
  | none =>
   rw[hx] at k1
   exact k1
  | some p =>
   rw[hx] at k1 k3
   simp only[hx] at k2
   cases p with
   | s p =>
    cases p with
    | ptr b o=>exact k2 b
    | cp cs=>exact k3
    | _=>exact k1
   | _=>exact k1
theorem jre {es:List Ent} {dst:Option Nat} {e:TypeId} {size:Nat} {len:Nat} {ps:List (Nat×Nat×Od)} {l:List (IOper×Option (List Nat))}:WD F ((.mk dst (.a (.bslice e size z len ps)) none,some js)::l) st es fr h Q=obP (sel es js h.hid) (fun hid'=>obP (fill st fr ps z) (fun cs=>jan hid' h.next=false/\WD F l (.s (.slice h.next 0 len len true size)::st) (.mk [(h.next,h.next+1)] (some [])::es) (jcc fr dst (.s (.slice h.next 0 len len true size))) (h.push (.arr cs e)) Q)):=by
 cases h with
 | mk k t lo hid =>
 rw[j4y (x:=ob (sel es js hid) (fun hid'=>ob (fill st fr ps z) (fun cs=>oif (jan hid' k) none (some (DR.mk (.s (.slice k 0 len len true size)) ((Hp.mk k t lo hid).push (.arr cs e)) (.mk [(k,k+1)] (some []))))))) (fun cl=>?_)]
 .refine propext ⟨fun⟨p,h1,h2⟩=>?_,fun⟨hid',h0,cs,h1,h2,h3⟩=>⟨DR.mk (.s (.slice k 0 len len true size)) ((Hp.mk k t lo hid).push (.arr cs e)) (.mk [(k,k+1)] (some [])),jaa.2 ⟨hid',h0,jaa.2 ⟨cs,h1,?_⟩⟩,h3⟩⟩
  .obtain ⟨hid',h3,h4⟩:=jaa.1 h1
   obtain⟨cs,h5,h6⟩:=jaa.1 h4
   rw[jap] at h6
   split at h6
   .cases h6
   .rename_i h7
    cases h6
    exact⟨hid',h3,cs,h5,Bool.eq_false_iff.2 h7,h2⟩
  .have h2':jan hid' k=false:=h2
   rw[h2'];rfl
 .show jmt cl st fr es (.mk k t lo hid) (.a (.bslice e size z len ps)) js=_
  show ob (sel es js hid) (fun hid'=>ob (ob (fill st fr ps z) (fun cs=>oif (jan hid' k) none (ok (.s (.slice k 0 len len true size)) (Hp.mk (Nat.succ k) (t.put (Nat.succ k) k (some (.arr cs e))) k hid')))) (fun p=>Hp.casesOn (motive:=fun _=>Option DR) p.2 (fun n' t' _ _=>some (.mk p.1 (.mk n' t' lo hid) (.mk [(k,n')] (some []))))))=_
  congr 1
  funext hid'
  cases fill st fr ps z with
  | none=>rfl
  | some cs =>
   show ob (oif (jan hid' k) none _) _=oif (jan hid' k) none _
   cases jan hid' k<;>rfl
end
section
variable {F:Fns} {s:St} {st fr:List AV} {h h':Hp} {Q:Ex->St->Prop} {l:List IOper} {dst:Option Nat} {v w:AV} {m:List (IOper×Option (List Nat))} {es:List Ent}
def zpO (F:Fns) (x:Option AV) (dst:Option Nat) (l:List IOper) (st fr:List AV) (h:Hp) (Q:Ex->St->Prop):Prop:=obP x (fun v=>WO F l (v::st) (jcc fr dst v) h Q)
theorem jt1:zpO F (some v) dst l st fr h Q=WO F l (v::st) (jcc fr dst v) h Q:=jb8
def zmO (F:Fns) (x:R) (dst:Option Nat) (l:List IOper) (st fr:List AV) (Q:Ex->St->Prop):Prop:=obP x (fun p=>WO F l (p.1::st) (jcc fr dst p.1) p.2 Q)
theorem jt2:zmO F (some (v,h)) dst l st fr Q=WO F l (v::st) (jcc fr dst v) h Q:=jb8
def qim (F:Fns) (dst:Option Nat) (l:List IOper) (st fr:List AV) (Q:Ex->St->Prop) (v:AV) (h:Hp):Prop:=WO F l (v::st) (jcc fr dst v) h Q
theorem jt3:qim F dst l st fr Q v h=WO F l (v::st) (jcc fr dst v) h Q:=rfl
def zkO (F:Fns) (x:Option (List AV)) (f:FuncId) (dst:Option Nat) (l:List IOper) (st fr:List AV) (h:Hp) (Q:Ex->St->Prop):Prop:=obP x (fun vs=>WC F f vs h (qim F dst l st fr Q))
theorem jt4 {f:FuncId}:zkO F (some vs) f dst l st fr h Q=WC F f vs h (qim F dst l st fr Q):=jb8
def zgO (F:Fns) (x:Option AV) (t:Bool) (dst:Option Nat) (op:IOp) (l:List IOper) (st fr:List AV) (h:Hp) (Q:Ex->St->Prop):Prop:=gP x t (WO F (.mk dst op none::l) st fr h Q) (WO F l (.undef::st) (jcc fr dst .undef) h Q)
theorem jt5 {b:Bool} {op:IOp}:zgO F (some (.s (.bool b))) t dst op l st fr h Q=if b=t then WO F (.mk dst op none::l) st fr h Q else WO F l (.undef::st) (jcc fr dst .undef) h Q:=j7e
theorem jpx {op:IOp}:zgO F (some .undef) t dst op l st fr h Q=WO F l (.undef::st) (jcc fr dst .undef) h Q:=j2c
def zcO (F:Fns) (x:Option AV) (a b:IC) (fr:List AV) (h:Hp) (Q:Ex->St->Prop):Prop:=qs6 x (W F a (.mk fr h) Q) (W F b (.mk fr h) Q)
theorem jt6 {b:Bool} {x y:IC}:zcO F (some (.s (.bool b))) x y fr h Q=if b=true then W F x (.mk fr h) Q else W F y (.mk fr h) Q:=j69
theorem jz1 {c:Od} {x y:IC}:W F (.cond c x y) (.mk fr h) Q=zcO F (ev [] fr c) x y fr h Q:=qpf
theorem jz2 {o:PO}:WO F (.mk dst (.p o) none::l) st fr h Q=zpO F (pop st fr o) dst l st fr h Q:=qh7
theorem jz3 {f:FuncId} {as:List Od}:WO F (.mk dst (.a (.call f as)) none::l) st fr h Q=zkO F (evs st fr as) f dst l st fr h Q:=qh8
theorem jt7 {op:IOp}:WO F (.mk dst op (some (i,t))::l) st fr h Q=zgO F (jei st i) t dst op l st fr h Q:=qcn
theorem jt8 {x:Od} {as:List Od} {f:FuncId} {caps:List (Nat×Nat)} (hx:ev st fr x=some (.s (.func f caps))):WO F (.mk dst (.a (.callv x as)) none::l) st fr h Q=zkO F (ob (evs st fr as) (fun vs=>some (vs++je5 caps))) f dst l st fr h Q:=by
 rw[qcm]
 refine propext ⟨fun⟨g,cs,h1,vs,h2,h3⟩=>?_,fun⟨vs,h1,h2⟩=>?_⟩
 .rw [hx] at h1;cases h1
  exact⟨_,jaa.2 ⟨vs,h2,rfl⟩,h3⟩
 .obtain ⟨us,h3,h4⟩:=jaa.1 h1
  cases h4
  exact⟨f,caps,hx,us,h3,h2⟩
def zpD (F:Fns) (x:Option AV) (e:Ent) (dst:Option Nat) (m:List (IOper×Option (List Nat))) (st:List AV) (es:List Ent) (fr:List AV) (h:Hp) (Q:Ex->St->Prop):Prop:=obP x (fun v=>WD F m (v::st) (e::es) (jcc fr dst v) h Q)
theorem jt9 {e:Ent}:zpD F (some v) e dst m st es fr h Q=WD F m (v::st) (e::es) (jcc fr dst v) h Q:=jb8
def zmD (F:Fns) (x:R) (dst:Option Nat) (m:List (IOper×Option (List Nat))) (st:List AV) (es:List Ent) (fr:List AV) (Q:Ex->St->Prop):Prop:=obP x (fun p=>WD F m (p.1::st) (.mk [] (some [])::es) (jcc fr dst p.1) p.2 Q)
theorem jua:zmD F (some (v,h)) dst m st es fr Q=WD F m (v::st) (.mk [] (some [])::es) (jcc fr dst v) h Q:=jb8
def qin (F:Fns) (dst:Option Nat) (m:List (IOper×Option (List Nat))) (st:List AV) (es:List Ent) (fr:List AV) (Q:Ex->St->Prop) (v:AV) (h:Hp):Prop:=WD F m (v::st) (.mk [] (some [])::es) (jcc fr dst v) h Q
theorem jub:qin F dst m st es fr Q v h=WD F m (v::st) (.mk [] (some [])::es) (jcc fr dst v) h Q:=rfl
def zkD (F:Fns) (x:Option (List AV)) (f:FuncId) (dst:Option Nat) (m:List (IOper×Option (List Nat))) (st:List AV) (es:List Ent) (fr:List AV) (h:Hp) (Q:Ex->St->Prop):Prop:=obP x (fun vs=>WC F f vs h (qin F dst m st es fr Q))
theorem juc {f:FuncId}:zkD F (some vs) f dst m st es fr h Q=WC F f vs h (qin F dst m st es fr Q):=jb8
def zgD (F:Fns) (x:Option AV) (t:Bool) (dst:Option Nat) (op:IOp) (o:Option (List Nat)) (m:List (IOper×Option (List Nat))) (st:List AV) (es:List Ent) (fr:List AV) (h:Hp) (Q:Ex->St->Prop):Prop:=gP x t (WD F ((.mk dst op none,o)::m) st es fr h Q) (WD F m (.undef::st) (.mk [] (some [])::es) (jcc fr dst .undef) h Q)
theorem jud {b:Bool} {op:IOp} {o:Option (List Nat)}:zgD F (some (.s (.bool b))) t dst op o m st es fr h Q=if b=t then WD F ((.mk dst op none,o)::m) st es fr h Q else WD F m (.undef::st) (.mk [] (some [])::es) (jcc fr dst .undef) h Q:=j7e
theorem jpy {op:IOp} {o:Option (List Nat)}:zgD F (some .undef) t dst op o m st es fr h Q=WD F m (.undef::st) (.mk [] (some [])::es) (jcc fr dst .undef) h Q:=j2c
theorem jz4 {o:PO}:WD F ((.mk dst (.p o) none,none)::m) st es fr h Q=zpD F (pop st fr o) (.mk [] (some [])) dst m st es fr h Q:=qh9
theorem jz5 {f:FuncId} {as:List Od}:WD F ((.mk dst (.a (.call f as)) none,none)::m) st es fr h Q=zkD F (evs st fr as) f dst m st es fr h Q:=qia
theorem jue {op:IOp} {o:Option (List Nat)}:WD F ((.mk dst op (some (i,t)),o)::m) st es fr h Q=zgD F (jei st i) t dst op o m st es fr h Q:=qco
def qvv (F:Fns) (x:Option (List (Nat×Nat))) (o:Option AV) (dst:Option Nat) (m:List (IOper×Option (List Nat))) (st:List AV) (es:List Ent) (fr:List AV) (h:Hp) (Q:Ex->St->Prop):Prop:=obP x (fun _=>zpD F o (.mk [(h.next,h.next)] (some [])) dst m st es fr h Q)
theorem jpz {x:List (Nat×Nat)} {o:Option AV}:qvv F (some x) o dst m st es fr h Q=zpD F o (.mk [(h.next,h.next)] (some [])) dst m st es fr h Q:=jb8
theorem jh2 {o:PO}:WD F ((.mk dst (.p o) none,some js)::m) st es fr h Q=qvv F (sel es js h.hid) (pop st fr o) dst m st es fr h Q:=jxb
def qtc (F:Fns) (x:Option (List (Nat×Nat))) (n:Nat) (agg:Bool) (p:Option AV) (dst:Option Nat) (m:List (IOper×Option (List Nat))) (st:List AV) (es:List Ent) (fr:List AV) (h:Hp) (Q:Ex->St->Prop):Prop:=obP x (fun hid'=>obP p (fun p=>zpD F (jnd (h.hide h.next hid') n agg p) (.mk [] (some (fpV p))) dst m st es fr h Q))
theorem jp0 {x:List (Nat×Nat)} {n:Nat}:qtc F (some x) n agg (some w) dst m st es fr h Q=zpD F (jnd (h.hide h.next x) n agg w) (.mk [] (some (fpV w))) dst m st es fr h Q:=by
 unfold qtc;rw[jb8,jb8]
theorem jh3 {n:Nat} {x:Od}:WD F ((.mk dst (.a (.load n agg x)) none,some js)::m) st es fr h Q=qtc F (sel es js h.hid) n agg (ev st fr x) dst m st es fr h Q:=jxe
def qsb (F:Fns) (x:Option (List (Nat×Nat))) (cs:Option (List SV)) (e:TypeId) (size len:Nat) (dst:Option Nat) (m:List (IOper×Option (List Nat))) (st:List AV) (es:List Ent) (fr:List AV) (h:Hp) (Q:Ex->St->Prop):Prop:=obP x (fun hid'=>obP cs (fun cs=>jan hid' h.next=false/\WD F m (.s (.slice h.next 0 len len true size)::st) (.mk [(h.next,h.next+1)] (some [])::es) (jcc fr dst (.s (.slice h.next 0 len len true size))) (h.push (.arr cs e)) Q))
theorem jkf {x:List (Nat×Nat)} {cs:List SV} {e:TypeId} {size len:Nat} (hx:jan x h.next=false):qsb F (some x) (some cs) e size len dst m st es fr h Q=WD F m (.s (.slice h.next 0 len len true size)::st) (.mk [(h.next,h.next+1)] (some [])::es) (jcc fr dst (.s (.slice h.next 0 len len true size))) (h.push (.arr cs e)) Q:=by
 unfold qsb;rw[jb8,jb8];exact propext ⟨fun h=>h.2,fun h=>⟨hx,h⟩⟩
theorem jz6 {cs:List SV} {e:TypeId} {size len:Nat}:qsb F (some []) (some cs) e size len dst m st es fr h Q=WD F m (.s (.slice h.next 0 len len true size)::st) (.mk [(h.next,h.next+1)] (some [])::es) (jcc fr dst (.s (.slice h.next 0 len len true size))) (h.push (.arr cs e)) Q:=jkf rfl
theorem jge {e:TypeId} {size:Nat} {len:Nat} {ps:List (Nat×Nat×Od)}:WD F ((.mk dst (.a (.bslice e size z len ps)) none,some js)::m) st es fr h Q=qsb F (sel es js h.hid) (fill st fr ps z) e size len dst m st es fr h Q:=jre
def qwg (F:Fns) (x:Option (List (Nat×Nat))) (u:AV) (dst:Option Nat) (m:List (IOper×Option (List Nat))) (st:List AV) (es:List Ent) (fr:List AV) (h:Hp) (Q:Ex->St->Prop):Prop:=obP x (fun _=>WD F m (u::st) (.mk [(h.next,h.next)] none::es) (jcc fr dst u) h Q)
theorem jp1 {x:List (Nat×Nat)} {u:AV}:qwg F (some x) u dst m st es fr h Q=WD F m (u::st) (.mk [(h.next,h.next)] none::es) (jcc fr dst u) h Q:=jb8
theorem j7v {e:TypeId}:WO F (.mk dst (.a (.new e z)) none::l) st fr h Q=zmO F (jdy st fr h (.new e z)) dst l st fr Q:=jf3 rfl
theorem j7w {e:TypeId}:WD F ((.mk dst (.a (.new e z)) none,none)::m) st es fr h Q=zmD F (jdy st fr h (.new e z)) dst m st es fr Q:=jf4 rfl
theorem j7x {e:TypeId} {x:Od}:WO F (.mk dst (.a (.box e x)) none::l) st fr h Q=zmO F (jdy st fr h (.box e x)) dst l st fr Q:=jf3 rfl
theorem j7y {e:TypeId} {x:Od}:WD F ((.mk dst (.a (.box e x)) none,none)::m) st es fr h Q=zmD F (jdy st fr h (.box e x)) dst m st es fr Q:=jf4 rfl
theorem jp2 {e:TypeId} {size:Nat} {len:Nat} {ps:List (Nat×Nat×Od)}:WO F (.mk dst (.a (.bslice e size z len ps)) none::l) st fr h Q=zmO F (jdy st fr h (.bslice e size z len ps)) dst l st fr Q:=jf3 rfl
theorem jp3 {e:TypeId} {size:Nat} {len:Nat} {ps:List (Nat×Nat×Od)}:WD F ((.mk dst (.a (.bslice e size z len ps)) none,none)::m) st es fr h Q=zmD F (jdy st fr h (.bslice e size z len ps)) dst m st es fr Q:=jf4 rfl
theorem jmg {e:TypeId} {size:Nat} {x y:Od}:WO F (.mk dst (.a (.mkslice e size bytes z x y)) none::l) st fr h Q=zmO F (jdy st fr h (.mkslice e size bytes z x y)) dst l st fr Q:=jf3 rfl
theorem jmh {e:TypeId} {size:Nat} {x y:Od}:WD F ((.mk dst (.a (.mkslice e size bytes z x y)) none,none)::m) st es fr h Q=zmD F (jdy st fr h (.mkslice e size bytes z x y)) dst m st es fr Q:=jf4 rfl
theorem jz7 {n:Nat} {x:Od}:WO F (.mk dst (.a (.load n agg x)) none::l) st fr h Q=zmO F (jdy st fr h (.load n agg x)) dst l st fr Q:=jf3 rfl
theorem jz8 {n:Nat} {x:Od}:WD F ((.mk dst (.a (.load n agg x)) none,none)::m) st es fr h Q=zmD F (jdy st fr h (.load n agg x)) dst m st es fr Q:=jf4 rfl
theorem juf {n:Nat} {x y:Od}:WO F (.mk dst (.a (.store n x y)) none::l) st fr h Q=zmO F (jdy st fr h (.store n x y)) dst l st fr Q:=jf3 rfl
theorem jug {n:Nat} {x y:Od}:WD F ((.mk dst (.a (.store n x y)) none,none)::m) st es fr h Q=zmD F (jdy st fr h (.store n x y)) dst m st es fr Q:=jf4 rfl
theorem j7z {e:TypeId} {size:Nat} {x y:Od}:WO F (.mk dst (.a (.app e size bytes x y)) none::l) st fr h Q=zmO F (jdy st fr h (.app e size bytes x y)) dst l st fr Q:=jf3 rfl
theorem j70 {e:TypeId} {size:Nat} {x y:Od}:WD F ((.mk dst (.a (.app e size bytes x y)) none,none)::m) st es fr h Q=zmD F (jdy st fr h (.app e size bytes x y)) dst m st es fr Q:=jf4 rfl
theorem jz9 {size:Nat} {x y:Od}:WO F (.mk dst (.a (.copy size x y)) none::l) st fr h Q=zmO F (jdy st fr h (.copy size x y)) dst l st fr Q:=jf3 rfl
theorem j0a {size:Nat} {x y:Od}:WD F ((.mk dst (.a (.copy size x y)) none,none)::m) st es fr h Q=zmD F (jdy st fr h (.copy size x y)) dst m st es fr Q:=jf4 rfl
theorem juh {x:Od}:WO F (.mk dst (.a (.clear z x)) none::l) st fr h Q=zmO F (jdy st fr h (.clear z x)) dst l st fr Q:=jf3 rfl
theorem jui {x:Od}:WD F ((.mk dst (.a (.clear z x)) none,none)::m) st es fr h Q=zmD F (jdy st fr h (.clear z x)) dst m st es fr Q:=jf4 rfl
theorem juj:WO F (.mk dst (.a (.mkmap va)) none::l) st fr h Q=zmO F (jdy st fr h (.mkmap va)) dst l st fr Q:=jf3 rfl
theorem juk:WD F ((.mk dst (.a (.mkmap va)) none,none)::m) st es fr h Q=zmD F (jdy st fr h (.mkmap va)) dst m st es fr Q:=jf4 rfl
theorem j0b {x k:Od}:WO F (.mk dst (.a (.look sig va z okf x k)) none::l) st fr h Q=zmO F (jdy st fr h (.look sig va z okf x k)) dst l st fr Q:=jf3 rfl
theorem j0c {x k:Od}:WD F ((.mk dst (.a (.look sig va z okf x k)) none,none)::m) st es fr h Q=zmD F (jdy st fr h (.look sig va z okf x k)) dst m st es fr Q:=jf4 rfl
theorem j0d {x k y:Od}:WO F (.mk dst (.a (.mupd sig va x k y)) none::l) st fr h Q=zmO F (jdy st fr h (.mupd sig va x k y)) dst l st fr Q:=jf3 rfl
theorem j0e {x k y:Od}:WD F ((.mk dst (.a (.mupd sig va x k y)) none,none)::m) st es fr h Q=zmD F (jdy st fr h (.mupd sig va x k y)) dst m st es fr Q:=jf4 rfl
theorem jp4 {n size:Nat} {x:Od}:WO F (.mk dst (.a (.slicea n size x)) none::l) st fr h Q=zmO F (jdy st fr h (.slicea n size x)) dst l st fr Q:=jf3 rfl
theorem jp5 {n size:Nat} {x:Od}:WD F ((.mk dst (.a (.slicea n size x)) none,none)::m) st es fr h Q=zmD F (jdy st fr h (.slicea n size x)) dst m st es fr Q:=jf4 rfl
theorem j0f {size:Nat} {x:Od}:WO F (.mk dst (.a (.boxc size x)) none::l) st fr h Q=zmO F (jdy st fr h (.boxc size x)) dst l st fr Q:=jf3 rfl
theorem j0g {size:Nat} {x:Od}:WD F ((.mk dst (.a (.boxc size x)) none,none)::m) st es fr h Q=zmD F (jdy st fr h (.boxc size x)) dst m st es fr Q:=jf4 rfl
def qvw (o:BO) (x y:Option AV):Option AV:=ob x (fun a=>ob y (fun b=>svc none a (fun a=>svc none b (fun b=>jde o a b))))
theorem j71 {o:BO} {x y:Od}:pop st fr (.bin o x y)=qvw o (ev st fr x) (ev st fr y):=rfl
theorem jp6 {o:BO} {a b:SV}:qvw o (some (.s a)) (some (.s b))=jde o a b:=rfl
def qtd (off:Nat) (x:Option AV):Option AV:=ob x (fun v=>je3 v (fun b o=>some (.s (.ptr b (o+off)))) (fun cs=>some (.s (.cp (jbv off cs)))))
theorem j72 {off:Nat} {x:Od}:pop st fr (.fld off x)=qtd off (ev st fr x):=rfl
theorem jul {off b:Nat}:qtd off (some (.s (.ptr b o)))=some (.s (.ptr b (o+off))):=rfl
theorem j0h {off:Nat} {cs:List SV}:qtd off (some (.s (.cp cs)))=some (.s (.cp (jbv off cs))):=rfl
def qio (x:Option AV):Option AV:=ob x (fun v=>je3 v (fun b o=>some (.s (.ptr b o))) (fun cs=>some (.s (.cp cs))))
theorem j0i {x:Od}:pop st fr (.nchk x)=qio (ev st fr x):=rfl
theorem jp7 {b:Nat}:qio (some (.s (.ptr b o)))=some (.s (.ptr b o)):=rfl
theorem jum {cs:List SV}:qio (some (.s (.cp cs)))=some (.s (.cp cs)):=rfl
def qvx (x:Option AV):Option AV:=ob x jsg
theorem j73 {x:Od}:pop st fr (.len x)=qvx (ev st fr x):=rfl
theorem jp8:qvx (some v)=jsg v:=rfl
def qvy (size:Nat) (x y:Option AV):Option AV:=ob x (fun v=>ob y (fun w=>jxd size v w))
theorem j74 {size:Nat} {x i:Od}:pop st fr (.ixs size x i)=qvy size (ev st fr x) (ev st fr i):=rfl
theorem jp9 {size:Nat}:qvy size (some v) (some w)=jxd size v w:=rfl
def qvz (n size:Nat) (x y:Option AV):Option AV:=ob x (fun v=>ob y (fun w=>qes n size v w))
theorem j75 {n size:Nat} {x i:Od}:pop st fr (.ixa n size x i)=qvz n size (ev st fr x) (ev st fr i):=rfl
theorem jqa {n size:Nat}:qvz n size (some v) (some w)=qes n size v w:=rfl
def qpj (x:Option AV) (a b:Od) (st fr:List AV):Option AV:=ob x (fun v=>jiz v (fun t=>ev st fr (oif t a b)))
theorem j0j {c a b:Od}:pop st fr (.pick c a b)=qpj (ev st fr c) a b st fr:=rfl
theorem jmi {a b:Od}:qpj (some (.s (.bool t))) a b st fr=if t=true then ev st fr a else ev st fr b:=by cases t<;>rfl
def qv0 (i:Nat) (x:Option AV):Option AV:=ob x (fun v=>AV.casesOn (motive:=fun _=>Option AV) v (fun _=>none) (fun _=>none) (fun l=>ob (jei l i) (fun p=>je4 p.1 p.2)) none none)
theorem j76 {x:Od}:pop st fr (.ext i x)=qv0 i (ev st fr x):=rfl
def mk1 (p:Option (Bool×List SV)):Option AV:=ob p (fun p=>je4 p.1 p.2)
theorem jun {a:Bool} {l:List SV}:mk1 (some (a,l))=je4 a l:=rfl
theorem juo {l:List (Bool×List SV)}:qv0 i (some (.tup l))=mk1 (jei l i):=rfl
def ldR (h:Hp) (agg:Bool) (cs:Option (List SV)):R:=ob cs (fun cs=>ob (je4 agg cs) (fun v=>ok v h))
theorem qip {cs:List SV}:ldR h true (some cs)=some (.agg cs,h):=rfl
theorem qiq {a:SV}:ldR h false (some [a])=some (.s a,h):=rfl
def qir (h:Hp) (n:Nat) (agg:Bool) (x:Option AV):R:=ob x (fun v=>ob (jnd h n agg v) (fun v=>ok v h))
theorem j0k {n:Nat} {x:Od}:jdy st fr h (.load n agg x)=qir h n agg (ev st fr x):=j2d
theorem jqb {n b:Nat}:qir h n agg (some (.s (.ptr b o)))=ldR h agg (rdB (h.get b) o n):=by
 show ob (ob (rdB (h.get b) o n) _) _=_
 rw[qih];rfl
theorem jup {n:Nat} {cs:List SV}:qir h n agg (some (.s (.cp cs)))=ldR h agg (jbq n cs):=by
 show ob (ob (jbq n cs) _) _=_
 rw[qih];rfl
def jiv (h:Hp) (n:Nat) (x y:Option AV):R:=ob x (fun p=>ob y (fun v=>j7t h n p v))
theorem juq {n:Nat} {x v:Od}:jdy st fr h (.store n x v)=jiv h n (ev st fr x) (ev st fr v):=rfl
def stR (h:Option Hp):R:=ob h (fun h=>ok .undef h)
theorem jur:stR (some h)=some (.undef,h):=rfl
theorem qcu {b:Nat} {x:SV} (k:Ok h):jiv h 1 (some (.s (.ptr b o))) (some (.s x))=stR (wrB h b (h.get b) o [x]):=qct k
theorem j43 {n b:Nat} {cs:List SV} (k:Ok h) (hn:cs.length=n):jiv h n (some (.s (.ptr b o))) (some (.agg cs))=stR (wrB h b (h.get b) o cs):=j4z k hn
def qv1 (h:Hp) (e:TypeId) (size bytes:Nat) (x y:Option AV):R:=ob x (fun v=>ob y (fun w=>jk7 h e size bytes v w))
theorem j77 {e:TypeId} {size:Nat} {x y:Od}:jdy st fr h (.app e size bytes x y)=qv1 h e size bytes (ev st fr x) (ev st fr y):=rfl
theorem jqc {e:TypeId} {size:Nat}:qv1 h e size bytes (some v) (some w)=jk7 h e size bytes v w:=rfl
def bsO (h:Hp) (e:TypeId) (size len:Nat) (x:Option (List SV)):R:=ob x (fun cs=>some (.s (.slice h.next 0 len len true size),h.push (.arr cs e)))
theorem jus {e:TypeId} {size len:Nat} {cs:List SV}:bsO h e size len (some cs)=some (.s (.slice h.next 0 len len true size),h.push (.arr cs e)):=rfl
theorem j78 {e:TypeId} {size:Nat} {len:Nat} {ps:List (Nat×Nat×Od)} (k:Ok h):jdy st fr h (.bslice e size z len ps)=bsO h e size len (fill st fr ps z):=j40 k
def qsc (h:Hp) (e:TypeId) (x:Option AV):R:=ob x (fun v=>cel v (fun cs=>some (.s (.ptr h.next 0),h.push (.arr cs e))))
theorem qpk {e:TypeId} {x:Od} (k:Ok h):jdy st fr h (.box e x)=qsc h e (ev st fr x):=qij k
theorem j79 {e:TypeId} {x:SV}:qsc h e (some (.s x))=some (.s (.ptr h.next 0),h.push (.arr [x] e)):=rfl
theorem jut {e:TypeId} {cs:List SV}:qsc h e (some (.agg cs))=some (.s (.ptr h.next 0),h.push (.arr cs e)):=rfl
def qv2 (h:Hp) (e:TypeId) (size bytes:Nat) (z:List SV) (x y:Option AV):R:=ob x (fun v=>ob y (fun u=>qpi h e size bytes z v u))
theorem jmj {e:TypeId} {size:Nat} {l c:Od}:jdy st fr h (.mkslice e size bytes z l c)=qv2 h e size bytes z (ev st fr l) (ev st fr c):=rfl
theorem jqd {e:TypeId} {size:Nat}:qv2 h e size bytes z (some v) (some w)=qpi h e size bytes z v w:=rfl
def re1 (h:Hp) (x:Option (Bool×List SV)):R:=ob x (fun p=>ob (je4 p.1 p.2) (fun v=>some (v,h)))
theorem j8a {r:IR}:jcd (.mk fr h) [r]=re1 h (jnb fr h r):=j41
theorem qis {a:SV}:re1 h (some (false,[a]))=some (.s a,h):=rfl
theorem qit {l:List SV}:re1 h (some (true,l))=some (.agg l,h):=rfl
def reT (g:Option AV):Option (Bool×List SV):=ob g qwf
theorem j8b:jnb fr h (.tmp g)=reT (jei fr g):=rfl
theorem qiu {x:SV}:reT (some (.s x))=some (false,[x]):=rfl
theorem j0l {x:List SV}:reT (some (.agg x))=some (true,x):=rfl
def reC (h:Hp) (n:Nat) (agg:Bool) (g:Option AV):Option (Bool×List SV):=ob g (fun v=>jrl v (fun b off=>ob (rdB (h.get b) off n) (fun cs=>some (agg,cs))))
theorem j0m {n:Nat}:jnb fr h (.cell g n agg)=reC h n agg (jei fr g):=rfl
def reP (agg:Bool) (x:Option (List SV)):Option (Bool×List SV):=ob x (fun cs=>some (agg,cs))
theorem juu {cs:List SV}:reP agg (some cs)=some (agg,cs):=rfl
theorem j0n {n b:Nat}:reC h n agg (some (.s (.ptr b o)))=reP agg (rdB (h.get b) o n):=rfl
def qte (x:R) (Q:AV->Hp->Prop):Prop:=obP x (fun p=>Q p.1 p.2)
theorem jqe {Q:AV->Hp->Prop}:qte (some (v,h)) Q=Q v h:=jb8
theorem jjc {res:List IR} {Q:AV->Hp->Prop}:qbl res Q .normal s=qte (jcd s res) Q:=rfl
theorem juv {res:List IR} {Q:AV->Hp->Prop}:qbl res Q .ret s=qte (jcd s res) Q:=rfl
def re2 (h:Hp) (x:Option (List (Bool×List SV))):R:=ob x (fun vs=>some (.tup vs,h))
theorem juw {l:List (Bool×List SV)}:re2 h (some l)=some (.tup l,h):=rfl
theorem j8c {r r':IR} {k:List IR}:jcd (.mk fr h) (r::r'::k)=re2 h (jgh fr h (r::r'::k)):=j42
theorem jck {size b off len mc sz:Nat} {ex:Bool} (hm:1<len):jxd size (.s (.slice b off len mc ex sz)) (vi 1)=some (.s (.ptr b (off+size))):=by
 have:=ja8 (size:=size) (b:=b) (off:=off) (len:=len) (mc:=mc) (sz:=sz) (ex:=ex) hm
 rw[Nat.one_mul] at this;exact this
theorem jdz {n size b off:Nat} (hm:0<n):qes n size (.s (.ptr b off)) (vi 0)=some (.s (.ptr b off)):=by
 have:=jcu (n:=n) (size:=size) (b:=b) (off:=off) hm
 rw[f15,f1j] at this;exact this
theorem jd0 {n size b off:Nat} (hm:1<n):qes n size (.s (.ptr b off)) (vi 1)=some (.s (.ptr b (off+size))):=by
 have:=jcu (n:=n) (size:=size) (b:=b) (off:=off) hm
 rw[Nat.one_mul] at this;exact this
theorem jeu {n size:Nat} {cs:List SV} (hm:0<n):qes n size (.s (.cp cs)) (vi 0)=some (.s (.cp cs)):=by
 have:=jfb (n:=n) (size:=size) (cs:=cs) hm
 rw[f15] at this;exact this
theorem jev {n size:Nat} {cs:List SV} (hm:1<n):qes n size (.s (.cp cs)) (vi 1)=some (.s (.cp (jbv size cs))):=by
 have:=jfb (n:=n) (size:=size) (cs:=cs) hm
 rw[Nat.one_mul] at this;exact this
theorem jux [k:Ok h]:h.hid=[]:=k.hid
theorem jkg [k:Ok h] {n:Nat} {hid:List (Nat×Nat)}:(h.hide lo hid).get n=if jan hid n=true then none else h.get n:=qcs k
theorem jkh [k:Ok h] {e:TypeId} {size:Nat} {len:Nat} {ps:List (Nat×Nat×Od)}:jdy st fr h (.bslice e size z len ps)=bsO h e size len (fill st fr ps z):=j78 k
theorem juy [k:Ok h] {e:TypeId} {x:Od}:jdy st fr h (.box e x)=qsc h e (ev st fr x):=qpk k
theorem jki [k:Ok h] {e:TypeId}:jdy st fr h (.new e z)=some (.s (.ptr h.next 0),h.push (.arr z e)):=qii k
theorem juz [k:Ok h] {b:Nat} {x:SV}:jiv h 1 (some (.s (.ptr b o))) (some (.s x))=stR (wrB h b (h.get b) o [x]):=qcu k
theorem jkj [k:Ok h] {n b:Nat} {cs:List SV} (hn:cs.length=n):jiv h n (some (.s (.ptr b o))) (some (.agg cs))=stR (wrB h b (h.get b) o cs):=j43 k hn
theorem jkk [k:Ok h] {b:Nat} {t:SV}:jiv h 2 (some (.s (.ptr b o))) (some (.agg [t,u]))=stR (wrB h b (h.get b) o [t,u]):=jkj rfl
theorem jkl [k:Ok h] {b:Nat} {t v:SV}:jiv h 3 (some (.s (.ptr b o))) (some (.agg [t,u,v]))=stR (wrB h b (h.get b) o [t,u,v]):=jkj rfl
theorem jkm [k:Ok h] {b:Nat} {t v w:SV}:jiv h 4 (some (.s (.ptr b o))) (some (.agg [t,u,v,w]))=stR (wrB h b (h.get b) o [t,u,v,w]):=jkj rfl
theorem jkn [k:Ok h] {b:Nat} {t v w x:SV}:jiv h 5 (some (.s (.ptr b o))) (some (.agg [t,u,v,w,x]))=stR (wrB h b (h.get b) o [t,u,v,w,x]):=jkj rfl
theorem jko [k:Ok h] {b:Nat} {t v w x y z:SV}:jiv h 7 (some (.s (.ptr b o))) (some (.agg [t,u,v,w,x,y,z]))=stR (wrB h b (h.get b) o [t,u,v,w,x,y,z]):=jkj rfl
theorem jkp [k:Ok h] {x:AB} {n:Nat}:(h.push x).get n=if n=h.next then some x else h.get n:=ja2 k
theorem jkq [k:Ok h] {b n:Nat} {x:Option AB} (hb:1<=b):(h.put b x).get n=if n=b then x else h.get n:=jaj k hb
def mkL (agg:Bool) (x:Option (List SV)):Option AV:=ob x (fun cs=>je4 agg cs)
theorem qiv {cs:List SV}:mkL true (some cs)=some (.agg cs):=rfl
theorem qiw {a:SV}:mkL false (some [a])=some (.s a):=rfl
theorem j8d {n b:Nat}:jnd h n agg (.s (.ptr b o))=mkL agg (rdB (h.get b) o n):=rfl
theorem qix {n:Nat} {cs:List SV}:jnd h n agg (.s (.cp cs))=mkL agg (jbq n cs):=rfl
theorem qiy {a b:Int} (h1:0<=a) (h3:0<b):0<=a % b/\a % b<=a:=by
 have h2:=Int.emod_add_mul_ediv a b
 have h:=Int.ediv_nonneg h1 (Int.le_of_lt h3)
 have h4:=Int.mul_nonneg (Int.le_of_lt h3) h
 exact⟨Int.emod_nonneg a (by omega),by omega⟩
theorem jfd {a b:Int} (h1:0<=a) (h2:a<=9223372036854775807) (h3:0<b):jde .rem (.int .i64 a) (.int .i64 b)=some (vi (a % b)):=by
 have:=qiy h1 h3
 rw[jzw,if_neg (by omega),f2v h1,jih (by omega) (by omega)]
theorem j8e {a b:Int} (h1:-9223372036854775808<=a) (h2:a<=9223372036854775807) (h3:0<b):-9223372036854775808<=a.tdiv b/\a.tdiv b<=9223372036854775807:=by
 have h:=Int.natAbs_tdiv_le_natAbs a b
 rcases(by omega:a<0∨0<=a) with h4 | h4
 .have h5:a.tdiv b<=0:=by
   obtain⟨c,rfl⟩:∃ c,a=-c:=⟨-a,by omega⟩
   rw[Int.neg_tdiv]
   have:=Int.tdiv_nonneg (a:=c) (b:=b) (by omega) (Int.le_of_lt h3)
   omega
  omega
 .omega
theorem jjd {a b:Int} (h1:-9223372036854775808<=a) (h2:a<=9223372036854775807) (h3:0<b):jde .quo (.int .i64 a) (.int .i64 b)=some (vi (a.tdiv b)):=by
 have:=j8e h1 h2 h3
 rw[qid,if_neg (by omega),jih this.1 this.2]
theorem jje {a n:Int} {k:IntKind} (h1:0<=n) (h2:n<=63):jde .shr (.int .i64 a) (.int k n)=some (vi (a / 2 ^ n.toNat)):=by
 obtain⟨m,rfl⟩:=Int.eq_ofNat_of_zero_le h1
 exact qie (by omega)
theorem jew {a n:Nat}:(a=a+(n+1))=False:=eq_false (by omega)
theorem jex {a n:Nat}:(a+(n+1)=a)=False:=eq_false (by omega)
theorem qcv {e:TypeId} {x:SV} (ok:Ok h) (h1:bytes<=1000):qpi h e 1 bytes [x] (vi 2) (vi 2)=some (.s (.slice h.next 0 2 2 true 1),h.push (.arr [x,x] e)) :=
 jzy (m:=2) ok (by omega) (by omega)
theorem jg8 [ok:Ok h] {e:TypeId} {x:SV} (h1:bytes<=1000):qpi h e 1 bytes [x] (vi 2) (vi 2)=some (.s (.slice h.next 0 2 2 true 1),h.push (.arr [x,x] e)):=qcv ok h1
theorem jjm {a b:Nat} (h:a≠b):(a=b)=False:=eq_false h
theorem jds {a b:Nat} (h:b<a):(a<=b)=False:=eq_false (by omega)
theorem jdt {a b:Nat} (h:b<=a):(a<b)=False:=eq_false (by omega)
theorem jjn {a b:Nat} (h:a<=b):(a<=b)=True:=eq_true h
theorem jjo {a b:Nat} (h:a<b):(a<b)=True:=eq_true h
theorem qwh {a b:Int} (h:a<=b):(a<=b)=True:=eq_true h
theorem qwi {a b:Int} (h:a<b):(a<b)=True:=eq_true h
def qiz (F:Fns) (dst:Option Nat) (m:List (IOper×Option (List Nat))) (st:List AV) (es:List Ent) (fr:List AV) (h:Hp) (Q:Ex->St->Prop) (v:AV) (h':Hp):Prop:=WD F m (v::st) (.mk [(h.next,h'.next)] none::es) (jcc fr dst v) (.mk h'.next h'.tr h.lo h.hid) Q
def zkH (F:Fns) (x:Option (List (Nat×Nat))) (vs:Option (List AV)) (f:FuncId) (dst:Option Nat) (m:List (IOper×Option (List Nat))) (st:List AV) (es:List Ent) (fr:List AV) (h:Hp) (Q:Ex->St->Prop):Prop:=obP x (fun hid'=>obP vs (fun vs=>WC F f vs (h.hide h.next hid') (qiz F dst m st es fr h Q)))
theorem ju0 {x:List (Nat×Nat)} {f:FuncId}:zkH F (some x) (some vs) f dst m st es fr h Q=WC F f vs (h.hide h.next x) (qiz F dst m st es fr h Q):=by
 unfold zkH;rw[jb8,jb8]
theorem jmk {x:List (Nat×Nat)}:qiz F dst m st es fr h Q v (h.hide lo x)=WD F m (v::st) (.mk [(h.next,h.next)] none::es) (jcc fr dst v) h Q:=by cases h;rfl
theorem jg9 {f:FuncId} {as:List Od}:WD F ((.mk dst (.a (.call f as)) none,some js)::m) st es fr h Q=zkH F (sel es js h.hid) (evs st fr as) f dst m st es fr h Q:=by
 cases h with
 | mk k t lo hid =>
 rw[jpc]
 have key:∀ n v h' e,jyo (jbn F (run F n)) st fr es (.mk k t lo hid) (.a (.call f as)) none (some js)=some (.mk v h' e)↔∃ x vs h1,sel es js hid=some x/\evs st fr as=some vs/\jbn F (run F n) f vs (.mk k t k x)=some (v,h1)/\h'=.mk h1.next h1.tr lo hid/\e=.mk [(k,h1.next)] none:=fun n v h' e=>by
  have e0:jyo (jbn F (run F n)) st fr es (.mk k t lo hid) (.a (.call f as)) none (some js)=ob (sel es js hid) (fun x=>ob (ob (evs st fr as) (fun vs=>jbn F (run F n) f vs (.mk k t k x))) (fun p=>Hp.casesOn (motive:=fun _=>Option DR) p.2 (fun n' t' _ _=>some (.mk p.1 (.mk n' t' lo hid) (.mk [(k,n')] none))))):=rfl
  rw[e0]
  constructor
  .intro h1
   obtain⟨x,hx,h2⟩:=jaa.1 h1
   obtain⟨p,hp,h3⟩:=jaa.1 h2
   obtain⟨vs,hvs,h4⟩:=jaa.1 hp
   obtain⟨v1,⟨n1,t1,l1,d1⟩⟩:=p
   cases h3
   exact⟨x,vs,_,hx,hvs,h4,rfl,rfl⟩
  .rintro ⟨x,vs,⟨n1,t1,l1,d1⟩,hx,hvs,h4,rfl,rfl⟩
   exact jaa.2 ⟨x,hx,jaa.2 ⟨(v,.mk n1 t1 l1 d1),jaa.2 ⟨vs,hvs,h4⟩,rfl⟩⟩
 refine propext ⟨fun⟨n,v,h',e,h1,h2⟩=>?_,fun⟨x,hx,vs,hvs,n,v,h1,h2,h3⟩=>⟨n,v,_,_,(key n v _ _).2 ⟨x,vs,h1,hx,hvs,h2,rfl,rfl⟩,h3⟩⟩
 obtain⟨x,vs,h3,hx,hvs,h4,rfl,rfl⟩:=(key n v h' e).1 h1
 exact⟨x,hx,vs,hvs,n,v,h3,h4,h2⟩
theorem jdh {a:Nat} {n:Nat}:((a:Int) / 2 ^ n)=((a / 2 ^ n:Nat):Int):=by
 rw[Int.natCast_ediv,f3g];rfl
theorem jdi:(4+(i:Int)).toNat=4+i:=by omega
theorem jdj:(9+(i:Int)).toNat=9+i:=by omega
theorem jdk:(i:Int).toNat=i:=by omega
theorem jjf {a:Nat}:decide ((a:Int) % 2=1)=decide (a % 2=1):=decide_eq_decide.2 (by omega)
theorem jfe {a:Nat}:(a:Int).tdiv 4=((a / 4:Nat):Int):=rfl
theorem jff {a:Nat}:(a:Int).tdiv 5=((a / 5:Nat):Int):=rfl
theorem jgu {x:Option AB} {off sz:Nat} {c:SV} (hr:rdB x off sz=some row) (hj:row[j]?=some c):rdB x (off+j) 1=some [c]:=by
 cases x with
 | none=>cases hr
 | some x =>
  cases x with
  | map va es=>cases hr
  | arr cs ty =>
   rw[jgd,jbu] at hr ⊢
   obtain⟨h1,rfl⟩:=(ja7 _).1 hr
   have hjs:j<sz:=by
    rcases f0k j sz with h | h
    .exact h
    .rw [f0q (by simp;omega)] at hj;cases hj
   have hj2:cs[off+j]?=some c:=by
    rw[f2a,if_pos hjs,f1k] at hj;exact hj
   have hl:off+j<cs.length:=by
    rcases f0k (off+j) cs.length with h | h
    .exact h
    .rw [f0q h] at hj2;cases hj2
   refine(ja7 _).2 ⟨by simp;omega,?_⟩
   have e:cs.drop (off+j)=c::cs.drop (off+j+1):=by
    rw[f1c hl]
    rw[f0b hl] at hj2
    rw[Option.some.inj hj2]
   rw[e];rfl
def mmV (mx:Bool) (x y:Option AV):Option AV:=ob x (fun a=>ob y (fun b=>jk6 a (fun k m=>jk6 b (fun k' n=>oif (Nat.beq (ikn k) (ikn k')) (some (.s (.int k (oif (ile m n) (oif mx n m) (oif mx m n))))) none))))
theorem qi0 {mx:Bool} {x y:Od}:pop st fr (.mm mx x y)=mmV mx (ev st fr x) (ev st fr y):=rfl
theorem j0o {a b:Int}:mmV false (some (.s (.int .i64 a))) (some (.s (.int .i64 b)))=some (vi (if a<=b then a else b)):=by
 show some (AV.s (.int .i64 (oif (ile a b) a b)))=_
 rw[jap,jdu];simp only[decide_eq_true_eq]
theorem j0p {a b:Int}:mmV true (some (.s (.int .i64 a))) (some (.s (.int .i64 b)))=some (vi (if a<=b then b else a)):=by
 show some (AV.s (.int .i64 (oif (ile a b) b a)))=_
 rw[jap,jdu];simp only[decide_eq_true_eq]
end
theorem qwj:type_of% @Int.cast_ofNat_Int:=@Int.cast_ofNat_Int
theorem qwk:type_of% @Int.natCast_zero:=@Int.natCast_zero
theorem qwl:type_of% @Int.natCast_one:=@Int.natCast_one
theorem qwm:type_of% @decide_eq_true_eq:=@decide_eq_true_eq
theorem qwn:type_of% @decide_eq_false_iff_not:=@decide_eq_false_iff_not
theorem qwo:type_of% @Bool.false_eq_true:=@Bool.false_eq_true
theorem qwp:type_of% @and_true:=@and_true
theorem qwq:type_of% @true_and:=@true_and
theorem qwr:type_of% @List.cons_append:=@List.cons_append
theorem qws:type_of% @List.nil_append:=@List.nil_append
theorem qtf:type_of% @decide_true:=@decide_true
theorem qtg:type_of% @decide_false:=@decide_false
theorem qth:type_of% @Bool.not_true:=@Bool.not_true
theorem qti:type_of% @Bool.not_false:=@Bool.not_false
theorem qtj:type_of% @Nat.add_zero:=@Nat.add_zero
theorem qtk:type_of% @Nat.zero_add:=@Nat.zero_add
theorem qtl:type_of% @Option.some.injEq:=@Option.some.injEq
theorem qtm:type_of% @Bool.true_eq_false:=@Bool.true_eq_false
theorem qtn:type_of% @not_true_eq_false:=@not_true_eq_false
theorem qto:type_of% @not_false_eq_true:=@not_false_eq_true
theorem qtp:type_of% @Hp.next_push:=@Hp.next_push
theorem qtq:type_of% @Hp.next_put:=@Hp.next_put
theorem qtr:type_of% @Nat.add_assoc:=@Nat.add_assoc
attribute [go_sem] jg9 ju0 jmk j7a qh6 j7b qcl jzl jz1 jt6 jtm j7c j7d jz2 jt1 jz3 jt4 jt3 jt7 jt5 jpx jt2 j7f jz4 jt9 jua jz5 juc jub jue jud jpy jh2 jpz jh3 jp0 jge jp1 jz6 jkf jf2 jl1 jo8 ji6 jo9 jtl jhz jl2 jpa j7v j7x jp2 jmg jz7 juf j7z jz9 juh juj j0b j0d jp4 j0f j7w j7y jp3 jmh jz8 jug j70 j0a jui juk j0c j0e jp5 j0g qs7 qs8 qs9 jzm jtn jpg jph jpi jpj jpk jpl ji8 ji9 qta qtb jbj qib jpm jto jl4 jtp jl5 qic jzn j7i j7j j7k jtq jl6 jl7 jl8 jl9 jpn jtr jpo jpp jma jh0 jdo jpq jzo jzp qi0 j0o j0p j7l j0j jmi jpr jts jps j71 jp6 jzq jzr j72 jul j0h jtt j76 juo jun j0i jp7 jum jtu jkd jtv jpt jmb jja jpu jtw jtx j73 jp8 jty jke jmc jpv jzt jzu jzv jjd jfd jje j7n j7o j7p j7q j7r j7s j74 jp9 j75 jqa j8a qis qit j8b qiu j0l j0m juu j0n jqe jjc juv jme jfc jmf j8c juw qil jgd jpw j0k jqb jup qip qiq juq jur jmj jqd j77 jqc jus j79 jut jz0 j7u jzz jt0 jmd jjb j8d qix qiv qiw jew jex jck jcu jfb jdz jd0 jeu jev jux jkg jkh juy jki juz jkk jkl jkm jkn jko jkj jkp jkq jg8 jcj ja8 qwj qwk qwl qwm qwn qwo qwp qwq qwr qws qtf qtg qth qti qtj qtk qtl qtm qtn qto qtp qtq qtr
end
end Go.Proofs.Ytkeenpohacdanaa.Ev
