/- Open runs: what operations answer at values that are known in part. No program in sight. -/
import Derived.Test.YtehhjbfmjdlcjaaOp
namespace Go.Proofs.Ytehhjbfmjdlcjaa.Ev
open Go Go.RowKit
set_option linter.all false
variable {t va agg ex' okf:Bool} {rows:List (List SV)} {vs:List AV} {sig:List Bool} {js:List Nat} {z xs row:List SV} {g i j o b' lo o' mc' sz' bytes:Nat}
abbrev vi (n:Int):AV:=.s (.int .i64 n)
abbrev vb (b:Bool):AV:=.s (.bool b)
abbrev si (n:Int):SV:=.int .i64 n
section
variable {st fr:List AV} {h:Hp} {α β:Type}
theorem qqv:ev st fr (.l i)=jeb st i:=rfl
theorem qqw:ev st fr (.g i)=jeb fr i:=rfl
theorem qqx {v:AV}:ev st fr (.c v)=some v:=rfl
theorem jye:evs st fr []=some []:=rfl
theorem jsk {o:Od} {l:List Od}:evs st fr (o::l)=ob (ev st fr o) (fun v=>ob (evs st fr l) (fun r=>some (v::r))):=rfl
theorem jol {a:α} {l:List α}:jeb (a::l) 0=some a:=rfl
theorem jom {a:α} {l:List α} {n:Nat}:jeb (a::l) (n+1)=jeb l n:=rfl
theorem jon {a x:α} {l:List α}:jqp (a::l) 0 x=x::l:=rfl
theorem joo {a x:α} {l:List α} {n:Nat}:jqp (a::l) (n+1) x=a::jqp l n x:=rfl
theorem jop {v:AV}:jca fr none v=fr:=rfl
theorem joq {d:Nat} {v:AV}:jca fr (some d) v=jqp fr d v:=rfl
theorem ji5:jc6 0=[]:=rfl
theorem ji6 {n:Nat}:jc6 (n+1)=.undef::jc6 n:=rfl
theorem qqy {a:α} {f:α->Option β}:ob (some a) f=f a:=rfl
theorem qqz {f:α->Option β}:ob none f=none:=rfl
theorem jbh {b:Bool} {x y:α}:oif b x y=if b=true then x else y:=by cases b<;>rfl
theorem qfd {e:Option β} {x:SV} {f:SV->Option β}:svc e (.s x) f=f x:=rfl
theorem jor {e:Option β} {f:SV->Option β}:svc e .undef f=e:=rfl
theorem jsl {k:IntKind} {n:Int} {f:IntKind->Int->Option β}:j9v (.int k n) f=f k n:=rfl
theorem jln {b:Bool} {f:Bool->Option β}:jmo (.bool b) f=f b:=rfl
theorem jsm {k:IntKind} {n:Int} {f:IntKind->Int->Option β}:jmw (.s (.int k n)) f=f k n:=rfl
theorem jlp {b:Bool} {f:Bool->Option β}:jiw (.s (.bool b)) f=f b:=rfl
theorem qfe {x:SV} {f:List SV->Option β}:cel (.s x) f=f [x]:=rfl
theorem jyf {l:List SV} {f:List SV->Option β}:cel (.agg l) f=f l:=rfl
theorem j5k {a:SV}:je3 false [a]=some (.s a):=rfl
theorem j5l {l:List SV}:je3 true l=some (.agg l):=rfl
theorem j5m {x:SV} {f:List SV->Option β}:jxm false (.s x) f=f [x]:=rfl
theorem jsn {l:List SV} {f:List SV->Option β}:jxm true (.agg l) f=f l:=rfl
theorem jlq {l:List α}:jbw 0 l=some []:=rfl
theorem jlr {a:α} {l:List α} {n:Nat}:jbw (n+1) (a::l)=ob (jbw n l) (fun x=>some (a::x)):=rfl
theorem jls {l:List α}:jb7 0 l=l:=rfl
theorem jlt {a:α} {l:List α} {n:Nat}:jb7 (n+1) (a::l)=jb7 n l:=rfl
theorem jos {n:Nat}:jb7 n ([]:List α)=[]:=by cases n<;>rfl
theorem jso:jc3 ([]:List α)=0:=rfl
theorem jot {a:α} {l:List α}:jc3 (a::l)=jc3 l+1:=rfl
theorem jou {l:List α}:jnd [] l=some l:=rfl
theorem jlu {x a:α} {xs l:List α}:jnd (x::xs) (a::l)=ob (jnd xs l) (fun y=>some (x::y)):=rfl
theorem jhy {xs l:List α}:jbn 0 xs l=jnd xs l:=rfl
theorem jdj {a:α} {xs l:List α} {n:Nat}:jbn (n+1) xs (a::l)=ob (jbn n xs l) (fun y=>some (a::y)):=rfl
theorem jov {a:Nat}:Nat.beq a a=true:=f13 a
theorem jyg {a b:Nat}:(Nat.beq a b=true)=(a=b):=jgh a b
theorem jyh {a b:Nat}:(Nat.ble a b=true)=(a<=b):=jvc a b
theorem j5n {x:Od}:pop st fr (.mv x)=ev st fr x:=rfl
theorem jow {ps:List (Nat×Nat×Od)}:pop st fr (.build z ps)=ob (fill st fr ps z) (fun cs=>some (.agg cs)):=rfl
theorem jsp {cs:List SV}:fill st fr [] cs=some cs:=rfl
theorem jox {off n:Nat} {o:Od} {ps:List (Nat×Nat×Od)} {cs:List SV}:fill st fr ((off,n,o)::ps) cs=ob (ev st fr o) (fun v=>cel v (fun xs=>oif (Nat.beq (jc3 xs) n) (ob (jbn off xs cs) (fill st fr ps)) none)):=rfl
theorem jyi {x:Od}:pop st fr (.not x)=ob (ev st fr x) (fun v=>jiw v (fun b=>some (.s (.bool (!b))))):=by
 show ob (ev st fr x) (fun v=>jiw v (fun b=>some (AV.s (.bool (jhg b)))))=_
 congr 1;funext v;congr 1;funext b;cases b<;>rfl
theorem jyj {x:Od}:pop st fr (.neg x)=ob (ev st fr x) (fun v=>jmw v (fun k n=>j3x k (-n))):=rfl
theorem jsq {off n:Nat} {x:Od}:pop st fr (.fval off n agg x)=ob (ev st fr x) (fun v=>AV.casesOn (motive:=fun _=>Option AV) v (fun _=>none) (fun cs=>ob (jbw n (jb7 off cs)) (fun cs=>je3 agg cs)) (fun _=>none) none none):=rfl
theorem jsr {k:IntKind} {x:Od}:pop st fr (.conv k x)=ob (ev st fr x) (fun v=>jmw v (fun _ n=>j9u k n)):=rfl
theorem jj9 {f:FuncId} {cs:List Od}:pop st fr (.mkfun f cs)=ob (evs st fr cs) (fun vs=>ob (qb8 vs) (fun ps=>some (.s (.func f ps)))):=rfl
theorem jss:qb8 []=some []:=rfl
theorem joy {b:Nat} {l:List AV}:qb8 (.s (.ptr b o)::l)=ob (qb8 l) (fun r=>some ((b,o)::r)):=rfl
theorem jlv:jge []=[]:=rfl
theorem ji7 {b:Nat} {l:List (Nat×Nat)}:jge ((b,o)::l)=.s (.ptr b o)::jge l:=rfl
theorem joz {b:Nat} {f:Nat->Nat->Option β} {g:List SV->Option β}:je2 (.s (.ptr b o)) f g=f b o:=rfl
theorem jst {cs:List SV} {f:Nat->Nat->Option β} {g:List SV->Option β}:je2 (.s (.cp cs)) f g=g cs:=rfl
theorem jsu {b:Nat} {f:Nat->Nat->Option β}:jrw (.s (.ptr b o)) f=f b o:=rfl
noncomputable def j0y (v:AV):Option AV:=jcv v (some (.s (.int .i64 0))) (fun _ _ n _ _ _=>some (.s (.int .i64 (Int.ofNat n)))) (fun rows=>some (.s (.int .i64 (Int.ofNat (jc3 rows))))) (some (.s (.int .i64 0)))
theorem jsv:j0y (.s .nilSlice)=some (vi 0):=rfl
theorem jka:j0y (.s (.lst rows))=some (vi rows.length):=by
 show some (AV.s (.int .i64 (Int.ofNat (jc3 rows))))=_
 rw [jbk];rfl
theorem jlw {b n mc sz:Nat} {e:Bool}:j0y (.s (.slice b o n mc e sz))=some (vi n):=rfl
def j5o (n:Int):Option AV:=if -9223372036854775808<=n/\n<=9223372036854775807 then some (vi n) else none
theorem qat {n:Int} (h1:-9223372036854775808<=n) (h2:n<=9223372036854775807):inR .i64 n=true:=by
 cases n with
 | ofNat m=>exact (jvc m 9223372036854775807).symm▸(by have:(m:Int)<=9223372036854775807:=h2
                                                       omega)
 | negSucc m=>exact (jvc m 9223372036854775807).symm▸(by have:-9223372036854775808<=Int.negSucc m:=h1
                                                         omega)
theorem jo0 {n:Int}:j3x .i64 n=j5o n:=by
 unfold j5o
 show oif (inR .i64 n) (some (AV.s (.int .i64 n))) none=_
 split
 ·rename_i h;rw [qat h.1 h.2];rfl
 ·rename_i h
  cases e:inR .i64 n with
  | false=>rfl
  | true =>
   rcases jdh e with ⟨_,a,b⟩ | ⟨e,_⟩ | ⟨e,_⟩
   ·exact absurd ⟨a,b⟩ h
   ·cases e
   ·cases e
theorem jie {n:Int} (h1:-9223372036854775808<=n) (h2:n<=9223372036854775807):j5o n=some (vi n):=if_pos ⟨h1,h2⟩
def w64 (n:Int):Int:=IntKind.wrap .i64 n
theorem jag {n:Int} (h1:-9223372036854775808<=n) (h2:n<=9223372036854775807):w64 n=n:=jjp (qat h1 h2)
theorem jyk {n:Int}:j9s .i64 n=some (vi (w64 n)):=by
 show oif (inR .i64 n) (some (AV.s (.int .i64 n))) (some (AV.s (.int .i64 (IntKind.wrap .i64 n))))=_
 cases e:inR .i64 n with
 | true=>rw [show w64 n=n from jjp e];rfl
 | false=>rfl
variable {a b:Int}
theorem jyl:jej .add (.int .i64 a) (.int .i64 b)=some (vi (w64 (a+b))):=by
 rw [←jyk];show j9s .i64 (qb7 a b)=_;rw [jr2]
theorem jym:jej .sub (.int .i64 a) (.int .i64 b)=some (vi (w64 (a - b))):=by rw [←jyk];rfl
theorem jyn:jej .mul (.int .i64 a) (.int .i64 b)=some (vi (w64 (a*b))):=by rw [←jyk];rfl
theorem qff:jej .quo (.int .i64 a) (.int .i64 b)=if b=0 then none else j5o (a.tdiv b):=by
 rw [←jo0]
 show oif (ieq b 0) none (j3x .i64 (a.tdiv b))=_
 rw [jat,jcx];simp only [decide_eq_true_eq]
theorem jyo:jej .rem (.int .i64 a) (.int .i64 b)=if b=0 then none else j5o (a.tmod b):=by
 rw [←jo0]
 show oif (ieq b 0) none (j3x .i64 (a.tmod b))=_
 rw [jat,jcx];simp only [decide_eq_true_eq]
theorem j5p:jej .eq (.int .i64 a) (.int .i64 b)=some (vb (decide (a=b))):=by
 show some (AV.s (.bool (ieq a b)))=_;rw [jcx]
theorem j5q:jej .ne (.int .i64 a) (.int .i64 b)=some (vb (decide (a≠b))):=by
 show some (AV.s (.bool (jhg (ieq a b))))=_;rw [jcx,jf8];congr 3;by_cases h:a=b<;>simp [h]
theorem j5r:jej .lt (.int .i64 a) (.int .i64 b)=some (vb (decide (a<b))):=by
 show some (AV.s (.bool (jhg (ile b a))))=_;rw [jdn,jf8];congr 3;by_cases h:a<b<;>simp [h]
 omega
theorem j5s:jej .le (.int .i64 a) (.int .i64 b)=some (vb (decide (a<=b))):=by
 show some (AV.s (.bool (ile a b)))=_;rw [jdn]
theorem j5t:jej .gt (.int .i64 a) (.int .i64 b)=some (vb (decide (b<a))):=by
 show some (AV.s (.bool (jhg (ile a b))))=_;rw [jdn,jf8];congr 3;by_cases h:b<a<;>simp [h]
 omega
theorem j5u:jej .ge (.int .i64 a) (.int .i64 b)=some (vb (decide (b<=a))):=by
 show some (AV.s (.bool (ile b a)))=_;rw [jdn]
theorem qfg {n:Nat} {k:IntKind} (hn:n<=63):jej .shr (.int .i64 a) (.int k (n:Int))=some (vi (a / 2 ^ n)):=by
 have hs:j9t .i64 n=true:=by
  have hI:jne .i64=true:=rfl
  unfold j9t
  simp [jat,jvc,hn,hI]
 have e:jej .shr (.int .i64 a) (.int k (n:Int))=jve .shr .i64 a (n:Int):=by
  show oif (Nat.beq (ikn .i64) (ikn k)) (jve .shr .i64 a n) (oif true (jve .shr .i64 a n) none)=_
  cases Nat.beq (ikn .i64) (ikn k)<;>rfl
 rw [e]
 cases a with
 | ofNat m =>
  show oif (j9t .i64 n) (some (AV.s (.int .i64 (Int.ofNat (Nat.div m (Nat.pow 2 n)))))) none=_
  rw [hs]
  have:Int.ofNat (Nat.div m (Nat.pow 2 n))=Int.ofNat m / 2 ^ n:=by
   show ((m / 2 ^ n:Nat):Int)=(m:Int) / 2 ^ n
   rw [Int.natCast_ediv,f28];rfl
  rw [this];rfl
 | negSucc m =>
  show oif (j9t .i64 n) (some (AV.s (.int .i64 (Int.negSucc (Nat.div m (Nat.pow 2 n)))))) none=_
  rw [hs]
  have:Int.negSucc (Nat.div m (Nat.pow 2 n))=Int.negSucc m / 2 ^ n:=by
   obtain ⟨q,hq⟩:∃ q,2 ^ n=q+1:=⟨2 ^ n - 1,by have:=Nat.two_pow_pos n;omega⟩
   have h2:(2:Int) ^ n=((q+1:Nat):Int):=by rw [←hq,f28];rfl
   have h3:Nat.pow 2 n=q+1:=hq
   rw [h2,h3];rfl
  rw [this];rfl
theorem jg4 (h1:-9223372036854775808<=a) (h2:a<=9223372036854775807):jej .and (.int .i64 a) (.int .i64 1)=some (vi (a % 2)):=by
 have hr:=qat h1 h2
 cases a with
 | ofNat m =>
  show oif (inR .i64 (.ofNat m)) (some (AV.s (.int .i64 (.ofNat (Nat.land m 1))))) none=_
  rw [hr]
  have:Int.ofNat (Nat.land m 1)=Int.ofNat m % 2:=by
   rw [show Nat.land m 1=m % 2 from f19 m];rfl
  rw [this];rfl
 | negSucc m =>
  show oif (inR .i64 (.negSucc m)) (some (AV.s (.int .i64 (.ofNat (Nat.xor 1 (Nat.land 1 m)))))) none=_
  rw [hr]
  have:Int.ofNat (Nat.xor 1 (Nat.land 1 m))=Int.negSucc m % 2:=by
   have e:Nat.land 1 m=m % 2:=(Nat.and_comm 1 m).trans (f19 m)
   rw [e]
   rcases Nat.mod_two_eq_zero_or_one m with h | h
   ·rw [h];show (1:Int)=_;omega
   ·rw [h];show (0:Int)=_;omega
  rw [this];rfl
theorem qfh (h1:-9223372036854775808<=a) (h2:a<=9223372036854775807):jej .or (.int .i64 a) (.int .i64 1)=some (vi (a+(1 - a % 2))):=by
 have hr:=qat h1 h2
 cases a with
 | ofNat m =>
  show oif (inR .i64 (.ofNat m)) (some (AV.s (.int .i64 (.ofNat (Nat.lor m 1))))) none=_
  rw [hr]
  have:Int.ofNat (Nat.lor m 1)=Int.ofNat m+(1 - Int.ofNat m % 2):=by
   have e:m ||| 1=m+(1 - m % 2):=by
    have h1:(m ||| 1) / 2=m / 2:=by rw [Nat.or_div_two];simp
    have h2:(m ||| 1) % 2=1:=by rw [Nat.or_mod_two_eq_one];simp
    omega
   show ((m ||| 1:Nat):Int)=(m:Int)+(1 - (m:Int) % 2)
   rw [e];omega
  rw [this];rfl
 | negSucc m =>
  show oif (inR .i64 (.negSucc m)) (some (AV.s (.int .i64 (.negSucc (Nat.xor m (Nat.land m 1)))))) none=_
  rw [hr]
  have:Int.negSucc (Nat.xor m (Nat.land m 1))=Int.negSucc m+(1 - Int.negSucc m % 2):=by
   have e:m ^^^ (m &&& 1)=m - m % 2:=by
    have h1:(m ^^^ (m &&& 1)) / 2=m / 2:=by rw [Nat.xor_div_two,Nat.and_div_two];simp
    have h2:¬ (m ^^^ (m &&& 1)) % 2=1:=by
     have e:m &&& 1=m % 2:=f19 m
     rw [e,Nat.xor_mod_two_eq_one];omega
    omega
   show Int.negSucc (m ^^^ (m &&& 1))=_
   rw [e];omega
  rw [this];rfl
end
structure Ok (h:Hp):Prop where
 hid:h.hid=[]
 lo:h.lo=0
 pos:1<=h.next
theorem jif {a b:Nat} (h:a<=b):Nat.ble a b=true:=by rw [jvc];exact h
theorem jeh:Ok h0:=⟨rfl,rfl,f0f 1⟩
section
variable {h:Hp} {F:Fns} {st fr:List AV} {Q:Ex->St->Prop} {β:Type}
theorem jac {x:AB} (k:Ok h):Ok (h.push x):=⟨k.hid,k.lo,f2h k.pos⟩
theorem jad {b:Nat} {x:Option AB} (k:Ok h):Ok (h.put b x):=⟨by rw [Hp.hid_put];exact k.hid,by rw [Hp.lo_put];exact k.lo,by rw [Hp.next_put];exact k.pos⟩
theorem jaw {x:AB} {n:Nat} (k:Ok h):(h.push x).get n=if n=h.next then some x else h.get n:=by
 rw [Hp.get_eq,Hp.get_eq,Hp.hid_push,k.hid]
 have e:jaq [] n=false:=rfl
 rw [e]
 show (h.tr.put (Nat.succ h.next) h.next (some x)).get n=_
 split
 ·rename_i hn;subst hn;exact jbs _ _ _ _ k.pos (jmc _)
 ·rename_i hn;exact jbx _ _ _ _ n k.pos (jmc _) hn
theorem jal {b n:Nat} {x:Option AB} (k:Ok h) (hb:1<=b):(h.put b x).get n=if n=b then x else h.get n:=by
 rw [Hp.get_eq,Hp.get_eq,Hp.hid_put,k.hid,Hp.tr_put]
 have e:jaq [] n=false:=rfl
 rw [e]
 show (h.tr.put (Nat.succ b) b x).get n=_
 split
 ·rename_i hn;subst hn;exact jbs _ _ _ _ hb (jmc _)
 ·rename_i hn;exact jbx _ _ _ _ n hb (jmc _) hn
noncomputable def Hp.hide (h:Hp) (lo:Nat) (hid:List (Nat×Nat)):Hp:=.mk h.next h.tr lo hid
theorem jaa {n:Nat}:jaq [] n=false:=by cases n<;>rfl
theorem ji8 {a b n:Nat} {l:List (Nat×Nat)}:jaq ((a,b)::l) n=if a<=n/\n<b then true else jaq l n:=by
 show oif (Nat.ble a n) (oif (Nat.ble (n+1) b) true (jaq l n)) (jaq l n)=_
 simp only [jat,jvc]
 by_cases h1:a<=n
 ·by_cases h2:n+1<=b
  ·rw [if_pos h1,if_pos h2,if_pos ⟨h1,h2⟩]
  ·rw [if_pos h1,if_neg h2,if_neg (fun h=>h2 h.2)]
 ·rw [if_neg h1,if_neg (fun h=>h1 h.1)]
theorem jeq {n:Nat} {hid:List (Nat×Nat)} (k:Ok h):(h.hide lo hid).get n=if jaq hid n=true then none else h.get n:=by
 rw [Hp.get_eq,Hp.get_eq,k.hid];rfl
theorem j27 {cs:List SV} {ty:TypeId} {f:Nat->Hp->Option β} (k:Ok h):nw h cs ty f=f h.next (h.push (.arr cs ty)):=by
 cases h with
 | mk n t lo hid =>
  obtain rfl:hid=[]:=k.hid
  rfl
noncomputable def rdB (x:Option AB) (off n:Nat):Option (List SV):=ob x (fun x=>AB.casesOn (motive:=fun _=>Option (List SV)) x (fun cs _=>jbw n (jb7 off cs)) (fun _ _=>none))
theorem jga {cs:List SV} {ty:TypeId} {off n:Nat}:rdB (some (.arr cs ty)) off n=jbw n (jb7 off cs):=rfl
noncomputable def wrB (h:Hp) (b:Nat) (x:Option AB) (off:Nat) (xs:List SV):Option Hp:=ob x (fun x=>AB.casesOn (motive:=fun _=>Option Hp) x (fun cs ty=>ob (jbn off xs cs) (fun cs'=>some (h.put b (some (.arr cs' ty))))) (fun _ _=>none))
theorem qmw {b off:Nat} (k:Ok h):wr h b off xs=wrB h b (h.get b) off xs:=by
 show oif (Nat.ble h.lo b) _ none=_
 rw [k.lo];rfl
theorem jo1 {b:Nat} {cs:List SV} {ty:TypeId} {off:Nat}:wrB h b (some (.arr cs ty)) off xs=ob (jbn off xs cs) (fun cs'=>some (h.put b (some (.arr cs' ty)))):=rfl
noncomputable def jmr (h:Hp) (n:Nat) (agg:Bool) (v:AV):Option AV:=je2 v (fun b off=>ob (rd h b off n) (fun cs=>je3 agg cs)) (fun cs=>ob (jbw n cs) (fun cs=>je3 agg cs))
theorem qfi {α γ:Type} {x:Option α} {f:α->Option β} {g:β->Option γ}:ob (ob x f) g=ob x (fun a=>ob (f a) g):=by cases x<;>rfl
theorem j0z {n:Nat} {x:Od}:jd6 st fr h (.load n agg x)=ob (ev st fr x) (fun v=>ob (jmr h n agg v) (fun v=>ok v h)):=by
 show ob (ev st fr x) (fun v=>je2 v (fun b off=>ob (rd h b off n) (fun cs=>ob (je3 agg cs) (fun v=>ok v h))) (fun cs=>ob (jbw n cs) (fun cs=>ob (je3 agg cs) (fun v=>ok v h))))=_
 congr 1
 funext v
 cases v with
 | s v=>cases v<;>first | rfl | (show ob _ _=ob (ob _ _) _;rw [qfi])
 | _=>rfl
noncomputable def j5v (h:Hp) (n:Nat) (p v:AV):R:=jrw p (fun b off=>cel v (fun cs=>oif (Nat.beq (jc3 cs) n) (ob (wr h b off cs) (fun h=>ok .undef h)) none))
theorem qau {b:Nat} {v:SV} (k:Ok h):j5v h 1 (.s (.ptr b o)) (.s v)=ob (wrB h b (h.get b) o [v]) (fun h=>ok .undef h):=by
 show ob (wr h b o [v]) _=_
 rw [qmw k]
theorem j28 {n b:Nat} {cs:List SV} (k:Ok h) (hn:cs.length=n):j5v h n (.s (.ptr b o)) (.agg cs)=ob (wrB h b (h.get b) o cs) (fun h=>ok .undef h):=by
 show oif (Nat.beq (jc3 cs) n) (ob (wr h b o cs) _) none=_
 rw [qmw k,jbk,hn,f13];rfl
theorem jg5 {e:TypeId} (k:Ok h):jd6 st fr h (.new e z)=some (.s (.ptr h.next 0),h.push (.arr z e)):=by
 show nw h z e (fun n h=>ok (.s (.ptr n 0)) h)=_
 rw [j27 k];rfl
theorem qfj {e:TypeId} {x:Od} (k:Ok h):jd6 st fr h (.box e x)=ob (ev st fr x) (fun v=>cel v (fun cs=>some (.s (.ptr h.next 0),h.push (.arr cs e)))):=by
 show ob (ev st fr x) (fun v=>cel v (fun cs=>nw h cs e (fun n h=>ok (.s (.ptr n 0)) h)))=_
 congr 1;funext v;congr 1;funext cs;rw [j27 k];rfl
theorem j29 {e:TypeId} {size:Nat} {len:Nat} {ps:List (Nat×Nat×Od)} (k:Ok h):jd6 st fr h (.bslice e size z len ps)=ob (fill st fr ps z) (fun cs=>some (.s (.slice h.next 0 len len true size),h.push (.arr cs e))):=by
 show ob (fill st fr ps z) (fun cs=>nw h cs e (fun n h=>ok (.s (.slice n 0 len len true size)) h))=_
 congr 1;funext cs;rw [j27 k];rfl
noncomputable def qp6 (h:Hp) (e:TypeId) (size bytes:Nat) (z:List SV) (l c:AV):R:=qcb l (fun m=>qcb c (fun k=>oif (Nat.ble m k) (oif (Nat.ble (Nat.mul bytes k) 1000000000) (oif (Nat.ble k 1000000000) (nw h (rep z k) e (fun b h=>ok (.s (.slice b 0 m k true size)) h)) none) none) none))
theorem jsw {e:TypeId} {size:Nat} {m:Nat} (k:Ok h) (h1:bytes*m<=1000000000) (h2:m<=1000000000):qp6 h e size bytes z (vi m) (vi m)=some (.s (.slice h.next 0 m m true size),h.push (.arr (rep z m) e)):=by
 show oif (Nat.ble m m) (oif (Nat.ble (Nat.mul bytes m) 1000000000) (oif (Nat.ble m 1000000000) (nw h (rep z m) e _) none) none) none=_
 rw [j27 k,jif (f0f m),jif h2,show Nat.ble (Nat.mul bytes m) 1000000000=true from jif h1];rfl
noncomputable def jyp (size:Nat) (v w:AV):Option AV:=jcv v none (fun b off len _ _ _=>jix w len (fun m=>some (.s (.ptr b (Nat.add off (Nat.mul m size))))))
 (fun rows=>jix w (jc3 rows) (fun m=>ob (jeb rows m) (fun row=>oif (Nat.beq (jc3 row) size) (some (.s (.cp row))) none))) none
theorem jhz {m n:Nat} {f:Nat->Option β} (hm:m<n):jix (vi (m:Int)) n f=f m:=by
 show oif (Nat.ble (Nat.succ m) n) (f m) none=_
 rw [jif (show Nat.succ m<=n from hm)];rfl
theorem jbd {size b off len mc sz m:Nat} {ex:Bool} (hm:m<len):jyp size (.s (.slice b off len mc ex sz)) (vi (m:Int))=some (.s (.ptr b (off+m*size))):=jhz (f:=fun m=>some (AV.s (.ptr b (Nat.add off (Nat.mul m size))))) hm
theorem jcj {size b off len mc sz:Nat} {ex:Bool} (hm:0<len):jyp size (.s (.slice b off len mc ex sz)) (vi 0)=some (.s (.ptr b off)):=by
 have:=jhz (f:=fun m=>some (AV.s (.ptr b (Nat.add off (Nat.mul m size))))) hm
 refine this.trans ?_
 show some (AV.s (.ptr b (off+0*size)))=_
 rw [f2c,f0s]
theorem j00 {size m:Nat} (hr:rows[m]?=some row) (hl:row.length=size):jyp size (.s (.lst rows)) (vi (m:Int))=some (.s (.cp row)):=by
 have hm:m<rows.length:=by
  rcases f0h m rows.length with h | h
  ·exact h
  ·rw [f0t h] at hr;cases hr
 have:=jhz (f:=fun m=>ob (jeb rows m) (fun row=>oif (Nat.beq (jc3 row) size) (some (AV.s (.cp row))) none)) (show m<jc3 rows by rw [jbk];exact hm)
 refine this.trans ?_
 rw [jcd,hr]
 show oif (Nat.beq (jc3 row) size) _ none=_
 rw [jbk,hl,f13];rfl
noncomputable def qcn (n size:Nat) (v w:AV):Option AV:=je2 v (fun b off=>jix w n (fun m=>some (.s (.ptr b (Nat.add off (Nat.mul m size)))))) (fun cs=>jix w n (fun m=>some (.s (.cp (jb7 (Nat.mul m size) cs)))))
theorem jcs {n size b off m:Nat} (hm:m<n):qcn n size (.s (.ptr b off)) (vi (m:Int))=some (.s (.ptr b (off+m*size))):=jhz (f:=fun m=>some (AV.s (.ptr b (Nat.add off (Nat.mul m size))))) hm
theorem je9 {n size m:Nat} {cs:List SV} (hm:m<n):qcn n size (.s (.cp cs)) (vi (m:Int))=some (.s (.cp (jb7 (m*size) cs))):=jhz (f:=fun m=>some (AV.s (.cp (jb7 (Nat.mul m size) cs)))) hm
noncomputable def qs3 (h:Hp) (e:TypeId) (size bytes b n m:Nat) (x:Option AB) (new:List SV):R :=
 jqd bytes (Nat.add n m) (ob x (fun x=>AB.casesOn (motive:=fun _=>R) x (fun cs ty =>
  ob (jbw (Nat.mul n size) (jb7 0 cs)) (fun old=>(oif (Nat.ble h.lo b) (oif (Nat.beq ty e) (nw (h.put b none) (jhf old new) e (fun k h=>ok (.s (.slice k 0 (Nat.add n m) (Nat.add n m) false size)) h)) none) none))) (fun _ _=>none)))
noncomputable def jvd (h:Hp) (e:TypeId) (size bytes:Nat) (v w:AV):R:=jcv w (j9r v (ok v h)) (fun b' off' m _ _ _=>ob (rd h b' off' (Nat.mul m size)) (fun new=>j2k h e size bytes m v new))
 (fun rows=>ob (jxr size rows) (fun new=>j2k h e size bytes (jc3 rows) v new)) (j9r v (ok v h))
theorem jqg {e:TypeId} {size m:Nat}:jvd h e size bytes (.s .nilSlice) (.s (.slice b' o' m mc' ex' sz'))=ob (rdB (h.get b') o' (m*size)) (fun new=>Nat.casesOn (motive:=fun _=>R) m (some (.s .nilSlice,h)) (fun _=>jqd bytes m (nw h new e (fun k h=>ok (.s (.slice k 0 m m false size)) h)))):=rfl
theorem j01 {n:Nat} {x:R} (h1:n*bytes<=1000000000) (h2:n<=1000000000):jqd bytes n x=x:=by
 show oif (Nat.ble (Nat.mul n bytes) 1000000000) (oif (Nat.ble n 1000000000) x none) none=_
 rw [show Nat.ble (Nat.mul n bytes) 1000000000=true from jif h1,jif h2];rfl
theorem jms {e:TypeId} {size b n m:Nat} (hm:1<=m):jvd h e size bytes (.s (.slice b 0 n n false size)) (.s (.slice b' o' m mc' ex' sz'))=ob (rdB (h.get b') o' (m*size)) (fun new=>qs3 h e size bytes b n m (h.get b) new):=by
 show ob (rdB (h.get b') o' (m*size)) (fun new=>oif (Nat.beq size size) (oif (Nat.ble (Nat.add n m) n) _ (jqd bytes (Nat.add n m) (jry h e size b 0 n m false new))) none)=_
 congr 1
 funext new
 have e1:Nat.ble (Nat.add n m) n=false:=by
  cases e:Nat.ble (Nat.add n m) n with
  | false=>rfl
  | true=>rw [jvc] at e;have:n+m<=n:=e;omega
 rw [f13]
 show oif (Nat.ble (Nat.add n m) n) _ _=_
 rw [e1]
 rfl
theorem qfk {e:TypeId} {size b n m:Nat} {cs new:List SV} (k:Ok h) (hc:cs.length=n*size) (h1:(n+m)*bytes<=1000000000) (h2:n+m<=1000000000) :
 qs3 h e size bytes b n m (some (.arr cs e)) new=some (.s (.slice h.next 0 (n+m) (n+m) false size),(h.put b none).push (.arr (cs++new) e)):=by
 show jqd bytes (n+m) (ob (jbw (n*size) cs) (fun old=>oif (Nat.ble h.lo b) (oif (Nat.beq e e) (nw (h.put b none) (jhf old new) e _) none) none))=_
 rw [j01 h1 h2,(jbc _).2 ⟨f2p hc.symm,rfl⟩,←hc,f2w]
 show oif (Nat.ble h.lo b) (oif (Nat.beq e e) (nw (h.put b none) (jhf cs new) e _) none) none=_
 rw [k.lo,f13,j27 (jad k),jdc,Hp.next_put]
 rfl
noncomputable def qtq (v:AV):Option (Bool×List SV):=AV.casesOn (motive:=fun _=>Option (Bool×List SV)) v (fun s=>some (false,[s])) (fun l=>some (true,l)) (fun _=>none) none none
theorem jlx:jgg fr h []=some []:=rfl
theorem jfa {r:IR} {l:List IR}:jgg fr h (r::l)=ob (jmq fr h r) (fun v=>ob (jgg fr h l) (fun x=>some (v::x))):=rfl
theorem jly:jcb (.mk fr h) []=some (.tup [],h):=rfl
theorem j3a {r:IR}:jcb (.mk fr h) [r]=ob (jmq fr h r) (fun p=>ob (je3 p.1 p.2) (fun v=>some (v,h))):=by
 show ob (ob (jmq fr h r) (fun v=>ob (some []) (fun x=>some (v::x)))) (fun vs=>List.casesOn (motive:=fun _=>R) vs (ok (.tup []) h) (fun p r=>List.casesOn (motive:=fun _=>R) r (ob (je3 p.1 p.2) (fun v=>ok v h)) (fun _ _=>ok (.tup vs) h)))=_
 cases jmq fr h r<;>rfl
theorem j3b {r r':IR} {l:List IR}:jcb (.mk fr h) (r::r'::l)=ob (jgg fr h (r::r'::l)) (fun vs=>some (.tup vs,h)):=by
 show ob (jgg fr h (r::r'::l)) (fun vs=>List.casesOn (motive:=fun _=>R) vs (ok (.tup []) h) (fun p r=>List.casesOn (motive:=fun _=>R) r (ob (je3 p.1 p.2) (fun v=>ok v h)) (fun _ _=>ok (.tup vs) h)))=_
 rw [jfa,jfa]
 cases jmq fr h r with
 | none=>rfl
 | some a=>cases jmq fr h r' with
  | none=>rfl
  | some b=>cases jgg fr h l<;>rfl
theorem qfl {v:AV}:ok v h=some (v,h):=rfl
theorem jyq {es:List Ent} {hid:List (Nat×Nat)}:sel es [] hid=some hid:=rfl
theorem jsx {es:List Ent} {hid:List (Nat×Nat)}:sel es (j::js) hid=ob (jeb es j) (fun e=>ob (sel es js hid) (fun l=>Ent.casesOn (motive:=fun _=>Option (List (Nat×Nat))) e (fun iv _=>some (iv++l)))):=by
 show ob (jeb es j) (fun e=>ob (sel es js hid) (fun l=>Ent.casesOn (motive:=fun _=>Option (List (Nat×Nat))) e (fun iv _=>some (jhf iv l))))=_
 simp only [jdc]
def fpV:AV->List Nat
 | .s (.ptr b _)=>[b]
 | _=>[]
theorem jyr {b:Nat}:fpV (.s (.ptr b o))=[b]:=rfl
theorem j5w {cs:List SV}:fpV (.s (.cp cs))=[]:=rfl
theorem jwc {es:List Ent} {dst:Option Nat} {n:Nat} {x:Od} {l:List (IOper×Option (List Nat))}:WD F ((.mk dst (.a (.load n agg x)) none,some js)::l) st es fr h Q=obP (sel es js h.hid) (fun hid'=>obP (ev st fr x) (fun p=>obP (jmr (h.hide h.next hid') n agg p) (fun v=>WD F l (v::st) (.mk [] (some (fpV p))::es) (jca fr dst v) h Q))):=by
 cases h with
 | mk k t lo hid =>
 rw [j5i (x:=ob (sel es js hid) (fun hid'=>ob (ev st fr x) (fun p=>ob (jmr (.mk k t k hid') n agg p) (fun v=>some (DR.mk v (.mk k t lo hid) (.mk [] (some (fpV p)))))))) (fun cl=>?_)]
 ·refine propext ⟨fun ⟨p,h1,h2⟩=>?_,fun ⟨hid',h0,q,h1,v,h2,h3⟩=>⟨.mk v (.mk k t lo hid) (.mk [] (some (fpV q))),jab.2 ⟨hid',h0,jab.2 ⟨q,h1,jab.2 ⟨v,h2,rfl⟩⟩⟩,h3⟩⟩
  obtain ⟨hid',h3,h4⟩:=jab.1 h1
  obtain ⟨q,h5,h6⟩:=jab.1 h4
  obtain ⟨v,h7,h8⟩:=jab.1 h6
  cases h8
  exact ⟨hid',h3,q,h5,v,h7,h2⟩
 ·show jma cl st fr es (.mk k t lo hid) (.a (.load n agg x)) js=_
  show ob (sel es js hid) (fun hid'=>Cls.casesOn (motive:=fun _=>Option DR) (jvj (ob (ev st fr x) (fun v=>je2 v (fun b _=>some (Cls.load b)) (fun _=>some .quiet))) (fun c=>c))
   (jmx cl st fr k t lo k hid hid' (.a (.load n agg x)) (fun n'=>.mk [(k,n')] (some [])))
   (fun x'=>jmx cl st fr k t lo k hid hid' (.a (.load n agg x)) (fun _=>.mk [] (some [x'])))
   (fun b=>oif (jjn es js b) (oif (Nat.ble lo b) (ob (Hp.get (.mk k t lo hid') b) (fun _=>jmx cl st fr k t lo lo hid hid' (.a (.load n agg x)) (fun n'=>.mk [(b,Nat.succ b),(k,n')] none))) none) none)
   (jmx cl st fr k t lo k hid hid' (.a (.load n agg x)) (fun _=>.mk [] (some [])))
   (jmx cl st fr k t lo k hid hid' (.a (.load n agg x)) (fun n'=>.mk [(k,n')] none)))=_
  congr 1
  funext hid'
  have key:∀ e:Nat->Ent,jmx cl st fr k t lo k hid hid' (.a (.load n agg x)) e=ob (ev st fr x) (fun p=>ob (jmr (.mk k t k hid') n agg p) (fun v=>some (DR.mk v (.mk k t lo hid) (e k)))):=fun e=>by
   show ob (aop cl st fr (.mk k t k hid') (.load n agg x)) _=_
   rw [ji4 (show AO.calls (.load n agg x)=false from rfl),j0z]
   cases ev st fr x with
   | none=>rfl
   | some p =>
    show ob (ob (jmr (.mk k t k hid') n agg p) _) _=ob (jmr (.mk k t k hid') n agg p) _
    cases jmr (.mk k t k hid') n agg p<;>rfl
  have k1:=key (fun n'=>.mk [(k,n')] none)
  have k3:=key (fun _=>.mk [] (some []))
  have k2:=fun b=>key (fun _=>.mk [] (some [b]))
  cases hx:ev st fr x with
  | none =>
   rw [hx] at k1
   exact k1
  | some p =>
   rw [hx] at k1 k3
   simp only [hx] at k2
   cases p with
   | s p =>
    cases p with
    | ptr b o=>exact k2 b
    | cp cs=>exact k3
    | _=>exact k1
   | _=>exact k1
theorem jqh {es:List Ent} {dst:Option Nat} {e:TypeId} {size:Nat} {len:Nat} {ps:List (Nat×Nat×Od)} {l:List (IOper×Option (List Nat))}:WD F ((.mk dst (.a (.bslice e size z len ps)) none,some js)::l) st es fr h Q=obP (sel es js h.hid) (fun hid'=>obP (fill st fr ps z) (fun cs=>jaq hid' h.next=false/\WD F l (.s (.slice h.next 0 len len true size)::st) (.mk [(h.next,h.next+1)] (some [])::es) (jca fr dst (.s (.slice h.next 0 len len true size))) (h.push (.arr cs e)) Q)):=by
 cases h with
 | mk k t lo hid =>
 rw [j5i (x:=ob (sel es js hid) (fun hid'=>ob (fill st fr ps z) (fun cs=>oif (jaq hid' k) none (some (DR.mk (.s (.slice k 0 len len true size)) ((Hp.mk k t lo hid).push (.arr cs e)) (.mk [(k,k+1)] (some []))))))) (fun cl=>?_)]
 ·refine propext ⟨fun ⟨p,h1,h2⟩=>?_,fun ⟨hid',h0,cs,h1,h2,h3⟩=>⟨DR.mk (.s (.slice k 0 len len true size)) ((Hp.mk k t lo hid).push (.arr cs e)) (.mk [(k,k+1)] (some [])),jab.2 ⟨hid',h0,jab.2 ⟨cs,h1,?_⟩⟩,h3⟩⟩
  ·obtain ⟨hid',h3,h4⟩:=jab.1 h1
   obtain ⟨cs,h5,h6⟩:=jab.1 h4
   rw [jat] at h6
   split at h6
   ·cases h6
   ·rename_i h7
    cases h6
    exact ⟨hid',h3,cs,h5,Bool.eq_false_iff.2 h7,h2⟩
  ·have h2':jaq hid' k=false:=h2
   rw [h2'];rfl
 ·show jma cl st fr es (.mk k t lo hid) (.a (.bslice e size z len ps)) js=_
  show ob (sel es js hid) (fun hid'=>ob (ob (fill st fr ps z) (fun cs=>oif (jaq hid' k) none (ok (.s (.slice k 0 len len true size)) (Hp.mk (Nat.succ k) (t.put (Nat.succ k) k (some (.arr cs e))) k hid')))) (fun p=>Hp.casesOn (motive:=fun _=>Option DR) p.2 (fun n' t' _ _=>some (.mk p.1 (.mk n' t' lo hid) (.mk [(k,n')] (some []))))))=_
  congr 1
  funext hid'
  cases fill st fr ps z with
  | none=>rfl
  | some cs =>
   show ob (oif (jaq hid' k) none _) _=oif (jaq hid' k) none _
   cases jaq hid' k<;>rfl
end
section
variable {F:Fns} {s:St} {st fr:List AV} {h h':Hp} {Q:Ex->St->Prop} {l:List IOper} {dst:Option Nat} {v w:AV} {m:List (IOper×Option (List Nat))} {es:List Ent}
def zpO (F:Fns) (x:Option AV) (dst:Option Nat) (l:List IOper) (st fr:List AV) (h:Hp) (Q:Ex->St->Prop):Prop:=obP x (fun v=>WO F l (v::st) (jca fr dst v) h Q)
theorem jsy:zpO F (some v) dst l st fr h Q=WO F l (v::st) (jca fr dst v) h Q:=jci
def zmO (F:Fns) (x:R) (dst:Option Nat) (l:List IOper) (st fr:List AV) (Q:Ex->St->Prop):Prop:=obP x (fun p=>WO F l (p.1::st) (jca fr dst p.1) p.2 Q)
theorem jsz:zmO F (some (v,h)) dst l st fr Q=WO F l (v::st) (jca fr dst v) h Q:=jci
def qfm (F:Fns) (dst:Option Nat) (l:List IOper) (st fr:List AV) (Q:Ex->St->Prop) (v:AV) (h:Hp):Prop:=WO F l (v::st) (jca fr dst v) h Q
theorem js0:qfm F dst l st fr Q v h=WO F l (v::st) (jca fr dst v) h Q:=rfl
def zkO (F:Fns) (x:Option (List AV)) (f:FuncId) (dst:Option Nat) (l:List IOper) (st fr:List AV) (h:Hp) (Q:Ex->St->Prop):Prop:=obP x (fun vs=>WC F f vs h (qfm F dst l st fr Q))
theorem js1 {f:FuncId}:zkO F (some vs) f dst l st fr h Q=WC F f vs h (qfm F dst l st fr Q):=jci
def zgO (F:Fns) (x:Option AV) (t:Bool) (dst:Option Nat) (op:IOp) (l:List IOper) (st fr:List AV) (h:Hp) (Q:Ex->St->Prop):Prop:=gP x t (WO F (.mk dst op none::l) st fr h Q) (WO F l (.undef::st) (jca fr dst .undef) h Q)
theorem js2 {b:Bool} {op:IOp}:zgO F (some (.s (.bool b))) t dst op l st fr h Q=if b=t then WO F (.mk dst op none::l) st fr h Q else WO F l (.undef::st) (jca fr dst .undef) h Q:=j5g
theorem jo2 {op:IOp}:zgO F (some .undef) t dst op l st fr h Q=WO F l (.undef::st) (jca fr dst .undef) h Q:=j0x
def zcO (F:Fns) (x:Option AV) (a b:IC) (fr:List AV) (h:Hp) (Q:Ex->St->Prop):Prop:=qqu x (W F a (.mk fr h) Q) (W F b (.mk fr h) Q)
theorem js3 {b:Bool} {x y:IC}:zcO F (some (.s (.bool b))) x y fr h Q=if b=true then W F x (.mk fr h) Q else W F y (.mk fr h) Q:=j5b
theorem jys {c:Od} {x y:IC}:W F (.cond c x y) (.mk fr h) Q=zcO F (ev [] fr c) x y fr h Q:=qmt
theorem jyt {o:PO}:WO F (.mk dst (.p o) none::l) st fr h Q=zpO F (pop st fr o) dst l st fr h Q:=qe9
theorem jyu {f:FuncId} {as:List Od}:WO F (.mk dst (.a (.call f as)) none::l) st fr h Q=zkO F (evs st fr as) f dst l st fr h Q:=qfa
theorem js4 {op:IOp}:WO F (.mk dst op (some (i,t))::l) st fr h Q=zgO F (jeb st i) t dst op l st fr h Q:=qap
theorem j02 {x:Od} {as:List Od} {f:FuncId} {caps:List (Nat×Nat)} (hx:ev st fr x=some (.s (.func f caps))):WO F (.mk dst (.a (.callv x as)) none::l) st fr h Q=zkO F (ob (evs st fr as) (fun vs=>some (vs++jge caps))) f dst l st fr h Q:=by
 rw [qao]
 refine propext ⟨fun ⟨g,cs,h1,vs,h2,h3⟩=>?_,fun ⟨vs,h1,h2⟩=>?_⟩
 ·rw [hx] at h1;cases h1
  exact ⟨_,jab.2 ⟨vs,h2,rfl⟩,h3⟩
 ·obtain ⟨us,h3,h4⟩:=jab.1 h1
  cases h4
  exact ⟨f,caps,hx,us,h3,h2⟩
def zpD (F:Fns) (x:Option AV) (e:Ent) (dst:Option Nat) (m:List (IOper×Option (List Nat))) (st:List AV) (es:List Ent) (fr:List AV) (h:Hp) (Q:Ex->St->Prop):Prop:=obP x (fun v=>WD F m (v::st) (e::es) (jca fr dst v) h Q)
theorem js5 {e:Ent}:zpD F (some v) e dst m st es fr h Q=WD F m (v::st) (e::es) (jca fr dst v) h Q:=jci
def zmD (F:Fns) (x:R) (dst:Option Nat) (m:List (IOper×Option (List Nat))) (st:List AV) (es:List Ent) (fr:List AV) (Q:Ex->St->Prop):Prop:=obP x (fun p=>WD F m (p.1::st) (.mk [] (some [])::es) (jca fr dst p.1) p.2 Q)
theorem js6:zmD F (some (v,h)) dst m st es fr Q=WD F m (v::st) (.mk [] (some [])::es) (jca fr dst v) h Q:=jci
def qfn (F:Fns) (dst:Option Nat) (m:List (IOper×Option (List Nat))) (st:List AV) (es:List Ent) (fr:List AV) (Q:Ex->St->Prop) (v:AV) (h:Hp):Prop:=WD F m (v::st) (.mk [] (some [])::es) (jca fr dst v) h Q
theorem js7:qfn F dst m st es fr Q v h=WD F m (v::st) (.mk [] (some [])::es) (jca fr dst v) h Q:=rfl
def zkD (F:Fns) (x:Option (List AV)) (f:FuncId) (dst:Option Nat) (m:List (IOper×Option (List Nat))) (st:List AV) (es:List Ent) (fr:List AV) (h:Hp) (Q:Ex->St->Prop):Prop:=obP x (fun vs=>WC F f vs h (qfn F dst m st es fr Q))
theorem js8 {f:FuncId}:zkD F (some vs) f dst m st es fr h Q=WC F f vs h (qfn F dst m st es fr Q):=jci
def zgD (F:Fns) (x:Option AV) (t:Bool) (dst:Option Nat) (op:IOp) (o:Option (List Nat)) (m:List (IOper×Option (List Nat))) (st:List AV) (es:List Ent) (fr:List AV) (h:Hp) (Q:Ex->St->Prop):Prop:=gP x t (WD F ((.mk dst op none,o)::m) st es fr h Q) (WD F m (.undef::st) (.mk [] (some [])::es) (jca fr dst .undef) h Q)
theorem js9 {b:Bool} {op:IOp} {o:Option (List Nat)}:zgD F (some (.s (.bool b))) t dst op o m st es fr h Q=if b=t then WD F ((.mk dst op none,o)::m) st es fr h Q else WD F m (.undef::st) (.mk [] (some [])::es) (jca fr dst .undef) h Q:=j5g
theorem jo3 {op:IOp} {o:Option (List Nat)}:zgD F (some .undef) t dst op o m st es fr h Q=WD F m (.undef::st) (.mk [] (some [])::es) (jca fr dst .undef) h Q:=j0x
theorem jyv {o:PO}:WD F ((.mk dst (.p o) none,none)::m) st es fr h Q=zpD F (pop st fr o) (.mk [] (some [])) dst m st es fr h Q:=qfb
theorem jyw {f:FuncId} {as:List Od}:WD F ((.mk dst (.a (.call f as)) none,none)::m) st es fr h Q=zkD F (evs st fr as) f dst m st es fr h Q:=qfc
theorem jta {op:IOp} {o:Option (List Nat)}:WD F ((.mk dst op (some (i,t)),o)::m) st es fr h Q=zgD F (jeb st i) t dst op o m st es fr h Q:=qaq
def qs4 (F:Fns) (x:Option (List (Nat×Nat))) (o:Option AV) (dst:Option Nat) (m:List (IOper×Option (List Nat))) (st:List AV) (es:List Ent) (fr:List AV) (h:Hp) (Q:Ex->St->Prop):Prop:=obP x (fun _=>zpD F o (.mk [(h.next,h.next)] (some [])) dst m st es fr h Q)
theorem jo4 {x:List (Nat×Nat)} {o:Option AV}:qs4 F (some x) o dst m st es fr h Q=zpD F o (.mk [(h.next,h.next)] (some [])) dst m st es fr h Q:=jci
theorem jh0 {o:PO}:WD F ((.mk dst (.p o) none,some js)::m) st es fr h Q=qs4 F (sel es js h.hid) (pop st fr o) dst m st es fr h Q:=jwa
def qq0 (F:Fns) (x:Option (List (Nat×Nat))) (n:Nat) (agg:Bool) (p:Option AV) (dst:Option Nat) (m:List (IOper×Option (List Nat))) (st:List AV) (es:List Ent) (fr:List AV) (h:Hp) (Q:Ex->St->Prop):Prop:=obP x (fun hid'=>obP p (fun p=>zpD F (jmr (h.hide h.next hid') n agg p) (.mk [] (some (fpV p))) dst m st es fr h Q))
theorem jo5 {x:List (Nat×Nat)} {n:Nat}:qq0 F (some x) n agg (some w) dst m st es fr h Q=zpD F (jmr (h.hide h.next x) n agg w) (.mk [] (some (fpV w))) dst m st es fr h Q:=by
 unfold qq0;rw [jci,jci]
theorem jh1 {n:Nat} {x:Od}:WD F ((.mk dst (.a (.load n agg x)) none,some js)::m) st es fr h Q=qq0 F (sel es js h.hid) n agg (ev st fr x) dst m st es fr h Q:=jwc
def qq1 (F:Fns) (x:Option (List (Nat×Nat))) (cs:Option (List SV)) (e:TypeId) (size len:Nat) (dst:Option Nat) (m:List (IOper×Option (List Nat))) (st:List AV) (es:List Ent) (fr:List AV) (h:Hp) (Q:Ex->St->Prop):Prop:=obP x (fun hid'=>obP cs (fun cs=>jaq hid' h.next=false/\WD F m (.s (.slice h.next 0 len len true size)::st) (.mk [(h.next,h.next+1)] (some [])::es) (jca fr dst (.s (.slice h.next 0 len len true size))) (h.push (.arr cs e)) Q))
theorem jo6 {x:List (Nat×Nat)} {cs:List SV} {e:TypeId} {size len:Nat} (hx:jaq x h.next=false):qq1 F (some x) (some cs) e size len dst m st es fr h Q=WD F m (.s (.slice h.next 0 len len true size)::st) (.mk [(h.next,h.next+1)] (some [])::es) (jca fr dst (.s (.slice h.next 0 len len true size))) (h.push (.arr cs e)) Q:=by
 unfold qq1;rw [jci,jci];exact propext ⟨fun h=>h.2,fun h=>⟨hx,h⟩⟩
theorem jgb {e:TypeId} {size:Nat} {len:Nat} {ps:List (Nat×Nat×Od)}:WD F ((.mk dst (.a (.bslice e size z len ps)) none,some js)::m) st es fr h Q=qq1 F (sel es js h.hid) (fill st fr ps z) e size len dst m st es fr h Q:=jqh
def qtr (F:Fns) (x:Option (List (Nat×Nat))) (u:AV) (dst:Option Nat) (m:List (IOper×Option (List Nat))) (st:List AV) (es:List Ent) (fr:List AV) (h:Hp) (Q:Ex->St->Prop):Prop:=obP x (fun _=>WD F m (u::st) (.mk [(h.next,h.next)] none::es) (jca fr dst u) h Q)
theorem jo7 {x:List (Nat×Nat)} {u:AV}:qtr F (some x) u dst m st es fr h Q=WD F m (u::st) (.mk [(h.next,h.next)] none::es) (jca fr dst u) h Q:=jci
theorem j5x {e:TypeId}:WO F (.mk dst (.a (.new e z)) none::l) st fr h Q=zmO F (jd6 st fr h (.new e z)) dst l st fr Q:=jf0 rfl
theorem j5y {e:TypeId}:WD F ((.mk dst (.a (.new e z)) none,none)::m) st es fr h Q=zmD F (jd6 st fr h (.new e z)) dst m st es fr Q:=jf1 rfl
theorem j5z {e:TypeId} {x:Od}:WO F (.mk dst (.a (.box e x)) none::l) st fr h Q=zmO F (jd6 st fr h (.box e x)) dst l st fr Q:=jf0 rfl
theorem j50 {e:TypeId} {x:Od}:WD F ((.mk dst (.a (.box e x)) none,none)::m) st es fr h Q=zmD F (jd6 st fr h (.box e x)) dst m st es fr Q:=jf1 rfl
theorem jo8 {e:TypeId} {size:Nat} {len:Nat} {ps:List (Nat×Nat×Od)}:WO F (.mk dst (.a (.bslice e size z len ps)) none::l) st fr h Q=zmO F (jd6 st fr h (.bslice e size z len ps)) dst l st fr Q:=jf0 rfl
theorem jo9 {e:TypeId} {size:Nat} {len:Nat} {ps:List (Nat×Nat×Od)}:WD F ((.mk dst (.a (.bslice e size z len ps)) none,none)::m) st es fr h Q=zmD F (jd6 st fr h (.bslice e size z len ps)) dst m st es fr Q:=jf1 rfl
theorem jlz {e:TypeId} {size:Nat} {x y:Od}:WO F (.mk dst (.a (.mkslice e size bytes z x y)) none::l) st fr h Q=zmO F (jd6 st fr h (.mkslice e size bytes z x y)) dst l st fr Q:=jf0 rfl
theorem jl0 {e:TypeId} {size:Nat} {x y:Od}:WD F ((.mk dst (.a (.mkslice e size bytes z x y)) none,none)::m) st es fr h Q=zmD F (jd6 st fr h (.mkslice e size bytes z x y)) dst m st es fr Q:=jf1 rfl
theorem jyx {n:Nat} {x:Od}:WO F (.mk dst (.a (.load n agg x)) none::l) st fr h Q=zmO F (jd6 st fr h (.load n agg x)) dst l st fr Q:=jf0 rfl
theorem jyy {n:Nat} {x:Od}:WD F ((.mk dst (.a (.load n agg x)) none,none)::m) st es fr h Q=zmD F (jd6 st fr h (.load n agg x)) dst m st es fr Q:=jf1 rfl
theorem jtb {n:Nat} {x y:Od}:WO F (.mk dst (.a (.store n x y)) none::l) st fr h Q=zmO F (jd6 st fr h (.store n x y)) dst l st fr Q:=jf0 rfl
theorem jtc {n:Nat} {x y:Od}:WD F ((.mk dst (.a (.store n x y)) none,none)::m) st es fr h Q=zmD F (jd6 st fr h (.store n x y)) dst m st es fr Q:=jf1 rfl
theorem j51 {e:TypeId} {size:Nat} {x y:Od}:WO F (.mk dst (.a (.app e size bytes x y)) none::l) st fr h Q=zmO F (jd6 st fr h (.app e size bytes x y)) dst l st fr Q:=jf0 rfl
theorem j52 {e:TypeId} {size:Nat} {x y:Od}:WD F ((.mk dst (.a (.app e size bytes x y)) none,none)::m) st es fr h Q=zmD F (jd6 st fr h (.app e size bytes x y)) dst m st es fr Q:=jf1 rfl
theorem jyz {size:Nat} {x y:Od}:WO F (.mk dst (.a (.copy size x y)) none::l) st fr h Q=zmO F (jd6 st fr h (.copy size x y)) dst l st fr Q:=jf0 rfl
theorem jy0 {size:Nat} {x y:Od}:WD F ((.mk dst (.a (.copy size x y)) none,none)::m) st es fr h Q=zmD F (jd6 st fr h (.copy size x y)) dst m st es fr Q:=jf1 rfl
theorem jtd {x:Od}:WO F (.mk dst (.a (.clear z x)) none::l) st fr h Q=zmO F (jd6 st fr h (.clear z x)) dst l st fr Q:=jf0 rfl
theorem jte {x:Od}:WD F ((.mk dst (.a (.clear z x)) none,none)::m) st es fr h Q=zmD F (jd6 st fr h (.clear z x)) dst m st es fr Q:=jf1 rfl
theorem jtf:WO F (.mk dst (.a (.mkmap va)) none::l) st fr h Q=zmO F (jd6 st fr h (.mkmap va)) dst l st fr Q:=jf0 rfl
theorem jtg:WD F ((.mk dst (.a (.mkmap va)) none,none)::m) st es fr h Q=zmD F (jd6 st fr h (.mkmap va)) dst m st es fr Q:=jf1 rfl
theorem jy1 {x k:Od}:WO F (.mk dst (.a (.look sig va z okf x k)) none::l) st fr h Q=zmO F (jd6 st fr h (.look sig va z okf x k)) dst l st fr Q:=jf0 rfl
theorem jy2 {x k:Od}:WD F ((.mk dst (.a (.look sig va z okf x k)) none,none)::m) st es fr h Q=zmD F (jd6 st fr h (.look sig va z okf x k)) dst m st es fr Q:=jf1 rfl
theorem jy3 {x k y:Od}:WO F (.mk dst (.a (.mupd sig va x k y)) none::l) st fr h Q=zmO F (jd6 st fr h (.mupd sig va x k y)) dst l st fr Q:=jf0 rfl
theorem jy4 {x k y:Od}:WD F ((.mk dst (.a (.mupd sig va x k y)) none,none)::m) st es fr h Q=zmD F (jd6 st fr h (.mupd sig va x k y)) dst m st es fr Q:=jf1 rfl
theorem jpa {n size:Nat} {x:Od}:WO F (.mk dst (.a (.slicea n size x)) none::l) st fr h Q=zmO F (jd6 st fr h (.slicea n size x)) dst l st fr Q:=jf0 rfl
theorem jpb {n size:Nat} {x:Od}:WD F ((.mk dst (.a (.slicea n size x)) none,none)::m) st es fr h Q=zmD F (jd6 st fr h (.slicea n size x)) dst m st es fr Q:=jf1 rfl
theorem jy5 {size:Nat} {x:Od}:WO F (.mk dst (.a (.boxc size x)) none::l) st fr h Q=zmO F (jd6 st fr h (.boxc size x)) dst l st fr Q:=jf0 rfl
theorem jy6 {size:Nat} {x:Od}:WD F ((.mk dst (.a (.boxc size x)) none,none)::m) st es fr h Q=zmD F (jd6 st fr h (.boxc size x)) dst m st es fr Q:=jf1 rfl
noncomputable def qs5 (o:BO) (x y:Option AV):Option AV:=ob x (fun a=>ob y (fun b=>svc none a (fun a=>svc none b (fun b=>jej o a b))))
theorem j53 {o:BO} {x y:Od}:pop st fr (.bin o x y)=qs5 o (ev st fr x) (ev st fr y):=rfl
theorem jpc {o:BO} {a b:SV}:qs5 o (some (.s a)) (some (.s b))=jej o a b:=rfl
noncomputable def qq2 (off:Nat) (x:Option AV):Option AV:=ob x (fun v=>je2 v (fun b o=>some (.s (.ptr b (o+off)))) (fun cs=>some (.s (.cp (jb7 off cs)))))
theorem j54 {off:Nat} {x:Od}:pop st fr (.fld off x)=qq2 off (ev st fr x):=rfl
theorem jth {off b:Nat}:qq2 off (some (.s (.ptr b o)))=some (.s (.ptr b (o+off))):=rfl
theorem jy7 {off:Nat} {cs:List SV}:qq2 off (some (.s (.cp cs)))=some (.s (.cp (jb7 off cs))):=rfl
noncomputable def qfo (x:Option AV):Option AV:=ob x (fun v=>je2 v (fun b o=>some (.s (.ptr b o))) (fun cs=>some (.s (.cp cs))))
theorem jy8 {x:Od}:pop st fr (.nchk x)=qfo (ev st fr x):=rfl
theorem jpd {b:Nat}:qfo (some (.s (.ptr b o)))=some (.s (.ptr b o)):=rfl
theorem jti {cs:List SV}:qfo (some (.s (.cp cs)))=some (.s (.cp cs)):=rfl
noncomputable def qs6 (x:Option AV):Option AV:=ob x j0y
theorem j55 {x:Od}:pop st fr (.len x)=qs6 (ev st fr x):=rfl
theorem jpe:qs6 (some v)=j0y v:=rfl
noncomputable def qs7 (size:Nat) (x y:Option AV):Option AV:=ob x (fun v=>ob y (fun w=>jyp size v w))
theorem j56 {size:Nat} {x i:Od}:pop st fr (.ixs size x i)=qs7 size (ev st fr x) (ev st fr i):=rfl
theorem jpf {size:Nat}:qs7 size (some v) (some w)=jyp size v w:=rfl
noncomputable def qs8 (n size:Nat) (x y:Option AV):Option AV:=ob x (fun v=>ob y (fun w=>qcn n size v w))
theorem j57 {n size:Nat} {x i:Od}:pop st fr (.ixa n size x i)=qs8 n size (ev st fr x) (ev st fr i):=rfl
theorem jpg {n size:Nat}:qs8 n size (some v) (some w)=qcn n size v w:=rfl
noncomputable def qmx (x:Option AV) (a b:Od) (st fr:List AV):Option AV:=ob x (fun v=>jiw v (fun t=>ev st fr (oif t a b)))
theorem jy9 {c a b:Od}:pop st fr (.pick c a b)=qmx (ev st fr c) a b st fr:=rfl
theorem jl1 {a b:Od}:qmx (some (.s (.bool t))) a b st fr=if t=true then ev st fr a else ev st fr b:=by cases t<;>rfl
noncomputable def qs9 (i:Nat) (x:Option AV):Option AV:=ob x (fun v=>AV.casesOn (motive:=fun _=>Option AV) v (fun _=>none) (fun _=>none) (fun l=>ob (jeb l i) (fun p=>je3 p.1 p.2)) none none)
theorem j58 {x:Od}:pop st fr (.ext i x)=qs9 i (ev st fr x):=rfl
noncomputable def mk1 (p:Option (Bool×List SV)):Option AV:=ob p (fun p=>je3 p.1 p.2)
theorem jtj {a:Bool} {l:List SV}:mk1 (some (a,l))=je3 a l:=rfl
theorem jtk {l:List (Bool×List SV)}:qs9 i (some (.tup l))=mk1 (jeb l i):=rfl
noncomputable def ldR (h:Hp) (agg:Bool) (cs:Option (List SV)):R:=ob cs (fun cs=>ob (je3 agg cs) (fun v=>ok v h))
theorem qfp {cs:List SV}:ldR h true (some cs)=some (.agg cs,h):=rfl
theorem qfq {a:SV}:ldR h false (some [a])=some (.s a,h):=rfl
noncomputable def qfr (h:Hp) (n:Nat) (agg:Bool) (x:Option AV):R:=ob x (fun v=>ob (jmr h n agg v) (fun v=>ok v h))
theorem jza {n:Nat} {x:Od}:jd6 st fr h (.load n agg x)=qfr h n agg (ev st fr x):=j0z
theorem jph {n b:Nat}:qfr h n agg (some (.s (.ptr b o)))=ldR h agg (rdB (h.get b) o n):=by
 show ob (ob (rdB (h.get b) o n) _) _=_
 rw [qfi];rfl
theorem jtl {n:Nat} {cs:List SV}:qfr h n agg (some (.s (.cp cs)))=ldR h agg (jbw n cs):=by
 show ob (ob (jbw n cs) _) _=_
 rw [qfi];rfl
noncomputable def j59 (h:Hp) (n:Nat) (x y:Option AV):R:=ob x (fun p=>ob y (fun v=>j5v h n p v))
theorem jtm {n:Nat} {x v:Od}:jd6 st fr h (.store n x v)=j59 h n (ev st fr x) (ev st fr v):=rfl
noncomputable def stR (h:Option Hp):R:=ob h (fun h=>ok .undef h)
theorem jtn:stR (some h)=some (.undef,h):=rfl
theorem jer {b:Nat} {x:SV} (k:Ok h):j59 h 1 (some (.s (.ptr b o))) (some (.s x))=stR (wrB h b (h.get b) o [x]):=qau k
theorem jc2 {n b:Nat} {cs:List SV} (k:Ok h) (hn:cs.length=n):j59 h n (some (.s (.ptr b o))) (some (.agg cs))=stR (wrB h b (h.get b) o cs):=j28 k hn
noncomputable def qta (h:Hp) (e:TypeId) (size bytes:Nat) (x y:Option AV):R:=ob x (fun v=>ob y (fun w=>jvd h e size bytes v w))
theorem j6a {e:TypeId} {size:Nat} {x y:Od}:jd6 st fr h (.app e size bytes x y)=qta h e size bytes (ev st fr x) (ev st fr y):=rfl
theorem jpi {e:TypeId} {size:Nat}:qta h e size bytes (some v) (some w)=jvd h e size bytes v w:=rfl
noncomputable def bsO (h:Hp) (e:TypeId) (size len:Nat) (x:Option (List SV)):R:=ob x (fun cs=>some (.s (.slice h.next 0 len len true size),h.push (.arr cs e)))
theorem jto {e:TypeId} {size len:Nat} {cs:List SV}:bsO h e size len (some cs)=some (.s (.slice h.next 0 len len true size),h.push (.arr cs e)):=rfl
theorem jds {e:TypeId} {size:Nat} {len:Nat} {ps:List (Nat×Nat×Od)} (k:Ok h):jd6 st fr h (.bslice e size z len ps)=bsO h e size len (fill st fr ps z):=j29 k
noncomputable def qq3 (h:Hp) (e:TypeId) (x:Option AV):R:=ob x (fun v=>cel v (fun cs=>some (.s (.ptr h.next 0),h.push (.arr cs e))))
theorem jkb {e:TypeId} {x:Od} (k:Ok h):jd6 st fr h (.box e x)=qq3 h e (ev st fr x):=qfj k
theorem j6b {e:TypeId} {x:SV}:qq3 h e (some (.s x))=some (.s (.ptr h.next 0),h.push (.arr [x] e)):=rfl
theorem jtp {e:TypeId} {cs:List SV}:qq3 h e (some (.agg cs))=some (.s (.ptr h.next 0),h.push (.arr cs e)):=rfl
noncomputable def qtb (h:Hp) (e:TypeId) (size bytes:Nat) (z:List SV) (x y:Option AV):R:=ob x (fun v=>ob y (fun u=>qp6 h e size bytes z v u))
theorem jl2 {e:TypeId} {size:Nat} {l c:Od}:jd6 st fr h (.mkslice e size bytes z l c)=qtb h e size bytes z (ev st fr l) (ev st fr c):=rfl
theorem jpj {e:TypeId} {size:Nat}:qtb h e size bytes z (some v) (some w)=qp6 h e size bytes z v w:=rfl
noncomputable def re1 (h:Hp) (x:Option (Bool×List SV)):R:=ob x (fun p=>ob (je3 p.1 p.2) (fun v=>some (v,h)))
theorem j6c {r:IR}:jcb (.mk fr h) [r]=re1 h (jmq fr h r):=j3a
theorem qfs {a:SV}:re1 h (some (false,[a]))=some (.s a,h):=rfl
theorem qft {l:List SV}:re1 h (some (true,l))=some (.agg l,h):=rfl
noncomputable def reT (g:Option AV):Option (Bool×List SV):=ob g qtq
theorem j6d:jmq fr h (.tmp g)=reT (jeb fr g):=rfl
theorem qfu {x:SV}:reT (some (.s x))=some (false,[x]):=rfl
theorem jzb {x:List SV}:reT (some (.agg x))=some (true,x):=rfl
noncomputable def reC (h:Hp) (n:Nat) (agg:Bool) (g:Option AV):Option (Bool×List SV):=ob g (fun v=>jrw v (fun b off=>ob (rdB (h.get b) off n) (fun cs=>some (agg,cs))))
theorem jzc {n:Nat}:jmq fr h (.cell g n agg)=reC h n agg (jeb fr g):=rfl
noncomputable def reP (agg:Bool) (x:Option (List SV)):Option (Bool×List SV):=ob x (fun cs=>some (agg,cs))
theorem jtq {cs:List SV}:reP agg (some cs)=some (agg,cs):=rfl
theorem jzd {n b:Nat}:reC h n agg (some (.s (.ptr b o)))=reP agg (rdB (h.get b) o n):=rfl
def qq4 (x:R) (Q:AV->Hp->Prop):Prop:=obP x (fun p=>Q p.1 p.2)
theorem jpk {Q:AV->Hp->Prop}:qq4 (some (v,h)) Q=Q v h:=jci
theorem ji9 {res:List IR} {Q:AV->Hp->Prop}:qcl res Q .normal s=qq4 (jcb s res) Q:=rfl
theorem jtr {res:List IR} {Q:AV->Hp->Prop}:qcl res Q .ret s=qq4 (jcb s res) Q:=rfl
noncomputable def re2 (h:Hp) (x:Option (List (Bool×List SV))):R:=ob x (fun vs=>some (.tup vs,h))
theorem jts {l:List (Bool×List SV)}:re2 h (some l)=some (.tup l,h):=rfl
theorem j6e {r r':IR} {k:List IR}:jcb (.mk fr h) (r::r'::k)=re2 h (jgg fr h (r::r'::k)):=j3b
theorem jck {size b off len mc sz:Nat} {ex:Bool} (hm:1<len):jyp size (.s (.slice b off len mc ex sz)) (vi 1)=some (.s (.ptr b (off+size))):=by
 have:=jbd (size:=size) (b:=b) (off:=off) (len:=len) (mc:=mc) (sz:=sz) (ex:=ex) hm
 rw [Nat.one_mul] at this;exact this
theorem jdt {n size b off:Nat} (hm:0<n):qcn n size (.s (.ptr b off)) (vi 0)=some (.s (.ptr b off)):=by
 have:=jcs (n:=n) (size:=size) (b:=b) (off:=off) hm
 rw [f2c,f0s] at this;exact this
theorem jdu {n size b off:Nat} (hm:1<n):qcn n size (.s (.ptr b off)) (vi 1)=some (.s (.ptr b (off+size))):=by
 have:=jcs (n:=n) (size:=size) (b:=b) (off:=off) hm
 rw [Nat.one_mul] at this;exact this
theorem jes {n size:Nat} {cs:List SV} (hm:0<n):qcn n size (.s (.cp cs)) (vi 0)=some (.s (.cp cs)):=by
 have:=je9 (n:=n) (size:=size) (cs:=cs) hm
 rw [f2c] at this;exact this
theorem jet {n size:Nat} {cs:List SV} (hm:1<n):qcn n size (.s (.cp cs)) (vi 1)=some (.s (.cp (jb7 size cs))):=by
 have:=je9 (n:=n) (size:=size) (cs:=cs) hm
 rw [Nat.one_mul] at this;exact this
theorem jkc (k:Ok h):h.hid=[]:=k.hid
noncomputable def mkL (agg:Bool) (x:Option (List SV)):Option AV:=ob x (fun cs=>je3 agg cs)
theorem qfv {cs:List SV}:mkL true (some cs)=some (.agg cs):=rfl
theorem qfw {a:SV}:mkL false (some [a])=some (.s a):=rfl
theorem j6f {n b:Nat}:jmr h n agg (.s (.ptr b o))=mkL agg (rdB (h.get b) o n):=rfl
theorem qfx {n:Nat} {cs:List SV}:jmr h n agg (.s (.cp cs))=mkL agg (jbw n cs):=rfl
theorem qfy {a b:Int} (h1:0<=a) (h3:0<b):0<=a % b/\a % b<=a:=by
 have h2:=Int.emod_add_mul_ediv a b
 have h:=Int.ediv_nonneg h1 (Int.le_of_lt h3)
 have h4:=Int.mul_nonneg (Int.le_of_lt h3) h
 exact ⟨Int.emod_nonneg a (by omega),by omega⟩
theorem jfb {a b:Int} (h1:0<=a) (h2:a<=9223372036854775807) (h3:0<b):jej .rem (.int .i64 a) (.int .i64 b)=some (vi (a % b)):=by
 have:=qfy h1 h3
 rw [jyo,if_neg (by omega),f2t h1,jie (by omega) (by omega)]
theorem j6g {a b:Int} (h1:-9223372036854775808<=a) (h2:a<=9223372036854775807) (h3:0<b):-9223372036854775808<=a.tdiv b/\a.tdiv b<=9223372036854775807:=by
 have h:=Int.natAbs_tdiv_le_natAbs a b
 rcases (by omega:a<0∨0<=a) with h4 | h4
 ·have h5:a.tdiv b<=0:=by
   obtain ⟨c,rfl⟩:∃ c,a=-c:=⟨-a,by omega⟩
   rw [Int.neg_tdiv]
   have:=Int.tdiv_nonneg (a:=c) (b:=b) (by omega) (Int.le_of_lt h3)
   omega
  omega
 ·omega
theorem jja {a b:Int} (h1:-9223372036854775808<=a) (h2:a<=9223372036854775807) (h3:0<b):jej .quo (.int .i64 a) (.int .i64 b)=some (vi (a.tdiv b)):=by
 have:=j6g h1 h2 h3
 rw [qff,if_neg (by omega),jie this.1 this.2]
theorem jjb {a n:Int} {k:IntKind} (h1:0<=n) (h2:n<=63):jej .shr (.int .i64 a) (.int k n)=some (vi (a / 2 ^ n.toNat)):=by
 obtain ⟨m,rfl⟩:=Int.eq_ofNat_of_zero_le h1
 exact qfg (by omega)
theorem jeu {a n:Nat}:(a=a+(n+1))=False:=eq_false (by omega)
theorem jev {a n:Nat}:(a+(n+1)=a)=False:=eq_false (by omega)
theorem jew {e:TypeId} {x:SV} (ok:Ok h) (h1:bytes<=1000):qp6 h e 1 bytes [x] (vi 2) (vi 2)=some (.s (.slice h.next 0 2 2 true 1),h.push (.arr [x,x] e)) :=
 jsw (m:=2) ok (by omega) (by omega)
theorem jji {a b:Nat} (h:a≠b):(a=b)=False:=eq_false h
theorem jdl {a b:Nat} (h:b<a):(a<=b)=False:=eq_false (by omega)
theorem jdm {a b:Nat} (h:b<=a):(a<b)=False:=eq_false (by omega)
theorem jjj {a b:Nat} (h:a<=b):(a<=b)=True:=eq_true h
theorem jjk {a b:Nat} (h:a<b):(a<b)=True:=eq_true h
theorem qts {a b:Int} (h:a<=b):(a<=b)=True:=eq_true h
theorem qtt {a b:Int} (h:a<b):(a<b)=True:=eq_true h
def qfz (F:Fns) (dst:Option Nat) (m:List (IOper×Option (List Nat))) (st:List AV) (es:List Ent) (fr:List AV) (h:Hp) (Q:Ex->St->Prop) (v:AV) (h':Hp):Prop:=WD F m (v::st) (.mk [(h.next,h'.next)] none::es) (jca fr dst v) (.mk h'.next h'.tr h.lo h.hid) Q
def zkH (F:Fns) (x:Option (List (Nat×Nat))) (vs:Option (List AV)) (f:FuncId) (dst:Option Nat) (m:List (IOper×Option (List Nat))) (st:List AV) (es:List Ent) (fr:List AV) (h:Hp) (Q:Ex->St->Prop):Prop:=obP x (fun hid'=>obP vs (fun vs=>WC F f vs (h.hide h.next hid') (qfz F dst m st es fr h Q)))
theorem jtt {x:List (Nat×Nat)} {f:FuncId}:zkH F (some x) (some vs) f dst m st es fr h Q=WC F f vs (h.hide h.next x) (qfz F dst m st es fr h Q):=by
 unfold zkH;rw [jci,jci]
theorem jl3 {x:List (Nat×Nat)}:qfz F dst m st es fr h Q v (h.hide lo x)=WD F m (v::st) (.mk [(h.next,h.next)] none::es) (jca fr dst v) h Q:=by cases h;rfl
theorem jg6 {f:FuncId} {as:List Od}:WD F ((.mk dst (.a (.call f as)) none,some js)::m) st es fr h Q=zkH F (sel es js h.hid) (evs st fr as) f dst m st es fr h Q:=by
 cases h with
 | mk k t lo hid =>
 rw [joh]
 have key:∀ n v h' e,jxo (jbo F (run F n)) st fr es (.mk k t lo hid) (.a (.call f as)) none (some js)=some (.mk v h' e)↔∃ x vs h1,sel es js hid=some x/\evs st fr as=some vs/\jbo F (run F n) f vs (.mk k t k x)=some (v,h1)/\h'=.mk h1.next h1.tr lo hid/\e=.mk [(k,h1.next)] none:=fun n v h' e=>by
  have e0:jxo (jbo F (run F n)) st fr es (.mk k t lo hid) (.a (.call f as)) none (some js)=ob (sel es js hid) (fun x=>ob (ob (evs st fr as) (fun vs=>jbo F (run F n) f vs (.mk k t k x))) (fun p=>Hp.casesOn (motive:=fun _=>Option DR) p.2 (fun n' t' _ _=>some (.mk p.1 (.mk n' t' lo hid) (.mk [(k,n')] none))))):=rfl
  rw [e0]
  constructor
  ·intro h1
   obtain ⟨x,hx,h2⟩:=jab.1 h1
   obtain ⟨p,hp,h3⟩:=jab.1 h2
   obtain ⟨vs,hvs,h4⟩:=jab.1 hp
   obtain ⟨v1,⟨n1,t1,l1,d1⟩⟩:=p
   cases h3
   exact ⟨x,vs,_,hx,hvs,h4,rfl,rfl⟩
  ·rintro ⟨x,vs,⟨n1,t1,l1,d1⟩,hx,hvs,h4,rfl,rfl⟩
   exact jab.2 ⟨x,hx,jab.2 ⟨(v,.mk n1 t1 l1 d1),jab.2 ⟨vs,hvs,h4⟩,rfl⟩⟩
 refine propext ⟨fun ⟨n,v,h',e,h1,h2⟩=>?_,fun ⟨x,hx,vs,hvs,n,v,h1,h2,h3⟩=>⟨n,v,_,_,(key n v _ _).2 ⟨x,vs,h1,hx,hvs,h2,rfl,rfl⟩,h3⟩⟩
 obtain ⟨x,vs,h3,hx,hvs,h4,rfl,rfl⟩:=(key n v h' e).1 h1
 exact ⟨x,hx,vs,hvs,n,v,h3,h4,h2⟩
theorem jdd {a:Nat} {n:Nat}:((a:Int) / 2 ^ n)=((a / 2 ^ n:Nat):Int):=by
 rw [Int.natCast_ediv,f28];rfl
theorem jde:(4+(i:Int)).toNat=4+i:=by omega
theorem jdf:(9+(i:Int)).toNat=9+i:=by omega
theorem jdg:(i:Int).toNat=i:=by omega
theorem jjc {a:Nat}:decide ((a:Int) % 2=1)=decide (a % 2=1):=decide_eq_decide.2 (by omega)
theorem jfc {a:Nat}:(a:Int).tdiv 4=((a / 4:Nat):Int):=rfl
theorem jfd {a:Nat}:(a:Int).tdiv 5=((a / 5:Nat):Int):=rfl
theorem jgt {x:Option AB} {off sz:Nat} {c:SV} (hr:rdB x off sz=some row) (hj:row[j]?=some c):rdB x (off+j) 1=some [c]:=by
 cases x with
 | none=>cases hr
 | some x =>
  cases x with
  | map va es=>cases hr
  | arr cs ty =>
   rw [jga,jb4] at hr ⊢
   obtain ⟨h1,rfl⟩:=(jbc _).1 hr
   have hjs:j<sz:=by
    rcases f0h j sz with h | h
    ·exact h
    ·rw [f0t (by simp;omega)] at hj;cases hj
   have hj2:cs[off+j]?=some c:=by
    rw [f2a,if_pos hjs,f1p] at hj;exact hj
   have hl:off+j<cs.length:=by
    rcases f0h (off+j) cs.length with h | h
    ·exact h
    ·rw [f0t h] at hj2;cases hj2
   refine (jbc _).2 ⟨by simp;omega,?_⟩
   have e:cs.drop (off+j)=c::cs.drop (off+j+1):=by
    rw [f1j hl]
    rw [f0b hl] at hj2
    rw [Option.some.inj hj2]
   rw [e];rfl
noncomputable def mmV (mx:Bool) (x y:Option AV):Option AV:=ob x (fun a=>ob y (fun b=>jmw a (fun k m=>jmw b (fun k' n=>oif (Nat.beq (ikn k) (ikn k')) (some (.s (.int k (oif (ile m n) (oif mx n m) (oif mx m n))))) none))))
theorem qf0 {mx:Bool} {x y:Od}:pop st fr (.mm mx x y)=mmV mx (ev st fr x) (ev st fr y):=rfl
theorem jtu {a b:Int}:mmV false (some (.s (.int .i64 a))) (some (.s (.int .i64 b)))=some (vi (if a<=b then a else b)):=by
 show some (AV.s (.int .i64 (oif (ile a b) a b)))=_
 rw [jat,jdn];simp only [decide_eq_true_eq]
theorem jze {a b:Int}:mmV true (some (.s (.int .i64 a))) (some (.s (.int .i64 b)))=some (vi (if a<=b then b else a)):=by
 show some (AV.s (.int .i64 (oif (ile a b) b a)))=_
 rw [jat,jdn];simp only [decide_eq_true_eq]
end
attribute [go_sem] jg6 jtt jl3 j5c qe8 j5d qan jyd jys js3 jsj j5e j5f jyt jsy jyu js1 js0 js4 js2 jo2 jsz j5h jyv js5 js6 jyw js8 js7 jta js9 jo3 jh0 jo4 jh1 jo5 jgb jo7 jo6 jfz jlk jod ji3 joe jsi jhx jll jof j5x j5z jo8 jlz jyx jtb j51 jyz jtd jtf jy1 jy3 jpa jy5 j5y j50 jo9 jl0 jyy jtc j52 jy0 jte jtg jy2 jy4 jpb jy6 qqv qqw qqx jye jsk jol jom jon joo jop joq ji5 ji6 qqy qqz jbh qfd jor jsl jln jsm jlp qfe jyf j5k j5l j5m jsn jlq jlr jls jlt jos jso jot jou jlu jhy jdj jov jyg jyh qf0 jtu jze j5n jy9 jl1 jow jsp jox j53 jpc jyi jyj j54 jth jy7 jsq j58 jtk jtj jy8 jpd jti jsr jj9 jss joy jlv ji7 joz jst jsu j55 jpe jsv jka jlw jo0 jyl jym jyn jja jfb jjb j5p j5q j5r j5s j5t j5u j56 jpf j57 jpg j6c qfs qft j6d qfu jzb jzc jtq jzd jpk ji9 jtr jlx jfa jly j6e jts qfl jga jo1 jza jph jtl qfp qfq jtm jtn jl2 jpj j6a jpi jto j6b jtp jyr j5w jyq jsx jaa ji8 j6f qfx qfv qfw jeu jev jck jcs je9 jdt jdu jes jet jkc jeq jds jkb jg5 jer jc2 jaw jal jew jcj jbd
end Go.Proofs.Ytehhjbfmjdlcjaa.Ev
