/- Open runs: what operations answer at values that are known in part. No program in sight. -/
import Derived.Test.YtaljcpoopmedmaaOp
namespace Go.Proofs.Ytaljcpoopmedmaa.Ev
open Go Go.RowKit
set_option linter.all false
abbrev vi (n:Int):AV:=.s (.int .i64 n)
abbrev vb (b:Bool):AV:=.s (.bool b)
abbrev si (n:Int):SV:=.int .i64 n
section
variable {st fr:List AV} {h:Hp} {α β:Type}
theorem qq1 {i:Nat}:ev st fr (.l i)=jee st i:=rfl
theorem qq2 {i:Nat}:ev st fr (.g i)=jee fr i:=rfl
theorem qq3 {v:AV}:ev st fr (.c v)=some v:=rfl
theorem jyi:evs st fr []=some []:=rfl
theorem jsp {o:Od} {l:List Od}:evs st fr (o::l)=ob (ev st fr o) (fun v=>ob (evs st fr l) (fun r=>some (v::r))):=rfl
theorem jor {a:α} {l:List α}:jee (a::l) 0=some a:=rfl
theorem jos {a:α} {l:List α} {n:Nat}:jee (a::l) (n+1)=jee l n:=rfl
theorem jot {a x:α} {l:List α}:jqu (a::l) 0 x=x::l:=rfl
theorem jou {a x:α} {l:List α} {n:Nat}:jqu (a::l) (n+1) x=a::jqu l n x:=rfl
theorem jov {v:AV}:jce fr none v=fr:=rfl
theorem jow {d:Nat} {v:AV}:jce fr (some d) v=jqu fr d v:=rfl
theorem jjg:jc9 0=[]:=rfl
theorem jjh {n:Nat}:jc9 (n+1)=.undef::jc9 n:=rfl
theorem qq4 {a:α} {f:α->Option β}:ob (some a) f=f a:=rfl
theorem qq5 {f:α->Option β}:ob none f=none:=rfl
theorem jbg {b:Bool} {x y:α}:oif b x y=if b=true then x else y:=by cases b<;>rfl
theorem qfq {e:Option β} {x:SV} {f:SV->Option β}:svc e (.s x) f=f x:=rfl
theorem jox {e:Option β} {f:SV->Option β}:svc e .undef f=e:=rfl
theorem jsq {k:IntKind} {n:Int} {f:IntKind->Int->Option β}:j93 (.int k n) f=f k n:=rfl
theorem jlr {b:Bool} {f:Bool->Option β}:jmu (.bool b) f=f b:=rfl
theorem jsr {k:IntKind} {n:Int} {f:IntKind->Int->Option β}:jm3 (.s (.int k n)) f=f k n:=rfl
theorem jls {b:Bool} {f:Bool->Option β}:ji6 (.s (.bool b)) f=f b:=rfl
theorem qfr {x:SV} {f:List SV->Option β}:cel (.s x) f=f [x]:=rfl
theorem jyj {l:List SV} {f:List SV->Option β}:cel (.agg l) f=f l:=rfl
theorem j5r {a:SV}:jfb false [a]=some (.s a):=rfl
theorem j5s {l:List SV}:jfb true l=some (.agg l):=rfl
theorem j5t {x:SV} {f:List SV->Option β}:jxq false (.s x) f=f [x]:=rfl
theorem jss {l:List SV} {f:List SV->Option β}:jxq true (.agg l) f=f l:=rfl
theorem jlt {l:List α}:jbw 0 l=some []:=rfl
theorem jlu {a:α} {l:List α} {n:Nat}:jbw (n+1) (a::l)=ob (jbw n l) (fun x=>some (a::x)):=rfl
theorem jlv {l:List α}:jb1 0 l=l:=rfl
theorem jlw {a:α} {l:List α} {n:Nat}:jb1 (n+1) (a::l)=jb1 n l:=rfl
theorem joy {n:Nat}:jb1 n ([]:List α)=[]:=by cases n<;>rfl
theorem jst:jc5 ([]:List α)=0:=rfl
theorem joz {a:α} {l:List α}:jc5 (a::l)=jc5 l+1:=rfl
theorem jo0 {l:List α}:jnj [] l=some l:=rfl
theorem jlx {x a:α} {xs l:List α}:jnj (x::xs) (a::l)=ob (jnj xs l) (fun y=>some (x::y)):=rfl
theorem jh6 {xs l:List α}:jbs 0 xs l=jnj xs l:=rfl
theorem jdl {a:α} {xs l:List α} {n:Nat}:jbs (n+1) xs (a::l)=ob (jbs n xs l) (fun y=>some (a::y)):=rfl
theorem jo1 {a:Nat}:Nat.beq a a=true:=Nat.beq_refl a
theorem jyk {a b:Nat}:(Nat.beq a b=true)=(a=b):=jg6 a b
theorem jyl {a b:Nat}:(Nat.ble a b=true)=(a<=b):=jvd a b
theorem j5u {x:Od}:pop st fr (.mv x)=ev st fr x:=rfl
theorem jo2 {z:List SV} {ps:List (Nat×Nat×Od)}:pop st fr (.build z ps)=ob (fill st fr ps z) (fun cs=>some (.agg cs)):=rfl
theorem jsu {cs:List SV}:fill st fr [] cs=some cs:=rfl
theorem jo3 {off n:Nat} {o:Od} {ps:List (Nat×Nat×Od)} {cs:List SV}:fill st fr ((off,n,o)::ps) cs=ob (ev st fr o) (fun v=>cel v (fun xs=>oif (Nat.beq (jc5 xs) n) (ob (jbs off xs cs) (fill st fr ps)) none)):=rfl
theorem jym {x:Od}:pop st fr (.not x)=ob (ev st fr x) (fun v=>ji6 v (fun b=>some (.s (.bool (!b))))):=by
 show ob (ev st fr x) (fun v=>ji6 v (fun b=>some (AV.s (.bool (jho b)))))=_
 congr 1;funext v;congr 1;funext b;cases b<;>rfl
theorem jyn {x:Od}:pop st fr (.neg x)=ob (ev st fr x) (fun v=>jm3 v (fun k n=>j35 k (-n))):=rfl
theorem jsv {off n:Nat} {agg:Bool} {x:Od}:pop st fr (.fval off n agg x)=ob (ev st fr x) (fun v=>AV.casesOn (motive:=fun _=>Option AV) v (fun _=>none) (fun cs=>ob (jbw n (jb1 off cs)) (fun cs=>jfb agg cs)) (fun _=>none) none none):=rfl
theorem jsw {k:IntKind} {x:Od}:pop st fr (.conv k x)=ob (ev st fr x) (fun v=>jm3 v (fun _ n=>j92 k n)):=rfl
theorem jki {f:FuncId} {cs:List Od}:pop st fr (.mkfun f cs)=ob (evs st fr cs) (fun vs=>ob (qcj vs) (fun ps=>some (.s (.func f ps)))):=rfl
theorem jsx:qcj []=some []:=rfl
theorem jo4 {b o:Nat} {l:List AV}:qcj (.s (.ptr b o)::l)=ob (qcj l) (fun r=>some ((b,o)::r)):=rfl
theorem jly:jgj []=[]:=rfl
theorem jji {b o:Nat} {l:List (Nat×Nat)}:jgj ((b,o)::l)=.s (.ptr b o)::jgj l:=rfl
theorem jo5 {b o:Nat} {f:Nat->Nat->Option β} {g:List SV->Option β}:jfa (.s (.ptr b o)) f g=f b o:=rfl
theorem jsy {cs:List SV} {f:Nat->Nat->Option β} {g:List SV->Option β}:jfa (.s (.cp cs)) f g=g cs:=rfl
theorem jsz {b o:Nat} {f:Nat->Nat->Option β}:jr1 (.s (.ptr b o)) f=f b o:=rfl
noncomputable def j08 (v:AV):Option AV:=jc8 v (some (.s (.int .i64 0))) (fun _ _ n _ _ _=>some (.s (.int .i64 (Int.ofNat n)))) (fun rows=>some (.s (.int .i64 (Int.ofNat (jc5 rows))))) (some (.s (.int .i64 0)))
theorem js0:j08 (.s .nilSlice)=some (vi 0):=rfl
theorem jhc {rows:List (List SV)}:j08 (.s (.lst rows))=some (vi rows.length):=by
 show some (AV.s (.int .i64 (Int.ofNat (jc5 rows))))=_
 rw [jbm];rfl
theorem jlz {b o n mc sz:Nat} {e:Bool}:j08 (.s (.slice b o n mc e sz))=some (vi n):=rfl
def j5v (n:Int):Option AV:=if -9223372036854775808<=n/\n<=9223372036854775807 then some (vi n) else none
theorem qa1 {n:Int} (h1:-9223372036854775808<=n) (h2:n<=9223372036854775807):inR .i64 n=true:=by
 cases n with
 | ofNat m=>exact (jvd m 9223372036854775807).symm▸(by have:(m:Int)<=9223372036854775807:=h2
                                                       omega)
 | negSucc m=>exact (jvd m 9223372036854775807).symm▸(by have:-9223372036854775808<=Int.negSucc m:=h1
                                                         omega)
theorem jo6 {n:Int}:j35 .i64 n=j5v n:=by
 unfold j5v
 show oif (inR .i64 n) (some (AV.s (.int .i64 n))) none=_
 split
 ·rename_i h;rw [qa1 h.1 h.2];rfl
 ·rename_i h
  cases e:inR .i64 n with
  | false=>rfl
  | true =>
   rcases jdj e with ⟨_,a,b⟩ | ⟨e,_⟩ | ⟨e,_⟩
   ·exact absurd ⟨a,b⟩ h
   ·cases e
   ·cases e
theorem jil {n:Int} (h1:-9223372036854775808<=n) (h2:n<=9223372036854775807):j5v n=some (vi n):=if_pos ⟨h1,h2⟩
def w64 (n:Int):Int:=IntKind.wrap .i64 n
theorem jag {n:Int} (h1:-9223372036854775808<=n) (h2:n<=9223372036854775807):w64 n=n:=jjz (qa1 h1 h2)
theorem jyo {n:Int}:j90 .i64 n=some (vi (w64 n)):=by
 show oif (inR .i64 n) (some (AV.s (.int .i64 n))) (some (AV.s (.int .i64 (IntKind.wrap .i64 n))))=_
 cases e:inR .i64 n with
 | true=>rw [show w64 n=n from jjz e];rfl
 | false=>rfl
variable {a b:Int}
theorem jyp:jep .add (.int .i64 a) (.int .i64 b)=some (vi (w64 (a+b))):=by
 rw [←jyo];show j90 .i64 (qci a b)=_;rw [jr7]
theorem jyq:jep .sub (.int .i64 a) (.int .i64 b)=some (vi (w64 (a - b))):=by rw [←jyo];rfl
theorem jyr:jep .mul (.int .i64 a) (.int .i64 b)=some (vi (w64 (a*b))):=by rw [←jyo];rfl
theorem qfs:jep .quo (.int .i64 a) (.int .i64 b)=if b=0 then none else j5v (a.tdiv b):=by
 rw [←jo6]
 show oif (ieq b 0) none (j35 .i64 (a.tdiv b))=_
 rw [jav,jcy];simp only [decide_eq_true_eq]
theorem jys:jep .rem (.int .i64 a) (.int .i64 b)=if b=0 then none else j5v (a.tmod b):=by
 rw [←jo6]
 show oif (ieq b 0) none (j35 .i64 (a.tmod b))=_
 rw [jav,jcy];simp only [decide_eq_true_eq]
theorem j5w:jep .eq (.int .i64 a) (.int .i64 b)=some (vb (decide (a=b))):=by
 show some (AV.s (.bool (ieq a b)))=_;rw [jcy]
theorem j5x:jep .ne (.int .i64 a) (.int .i64 b)=some (vb (decide (a≠b))):=by
 show some (AV.s (.bool (jho (ieq a b))))=_;rw [jcy,jge];congr 3;by_cases h:a=b<;>simp [h]
theorem j5y:jep .lt (.int .i64 a) (.int .i64 b)=some (vb (decide (a<b))):=by
 show some (AV.s (.bool (jho (ile b a))))=_;rw [jdr,jge];congr 3;by_cases h:a<b<;>simp [h]
 omega
theorem j5z:jep .le (.int .i64 a) (.int .i64 b)=some (vb (decide (a<=b))):=by
 show some (AV.s (.bool (ile a b)))=_;rw [jdr]
theorem j50:jep .gt (.int .i64 a) (.int .i64 b)=some (vb (decide (b<a))):=by
 show some (AV.s (.bool (jho (ile a b))))=_;rw [jdr,jge];congr 3;by_cases h:b<a<;>simp [h]
 omega
theorem j51:jep .ge (.int .i64 a) (.int .i64 b)=some (vb (decide (b<=a))):=by
 show some (AV.s (.bool (ile b a)))=_;rw [jdr]
theorem qft {n:Nat} {k:IntKind} (hn:n<=63):jep .shr (.int .i64 a) (.int k (n:Int))=some (vi (a / 2 ^ n)):=by
 have hs:j91 .i64 n=true:=by
  have hI:jnk .i64=true:=rfl
  unfold j91
  simp [jav,jvd,hn,hI]
 have e:jep .shr (.int .i64 a) (.int k (n:Int))=jvf .shr .i64 a (n:Int):=by
  show oif (Nat.beq (ikn .i64) (ikn k)) (jvf .shr .i64 a n) (oif true (jvf .shr .i64 a n) none)=_
  cases Nat.beq (ikn .i64) (ikn k)<;>rfl
 rw [e]
 cases a with
 | ofNat m =>
  show oif (j91 .i64 n) (some (AV.s (.int .i64 (Int.ofNat (Nat.div m (Nat.pow 2 n)))))) none=_
  rw [hs]
  have:Int.ofNat (Nat.div m (Nat.pow 2 n))=Int.ofNat m / 2 ^ n:=by
   show ((m / 2 ^ n:Nat):Int)=(m:Int) / 2 ^ n
   rw [Int.natCast_ediv,Int.natCast_pow];rfl
  rw [this];rfl
 | negSucc m =>
  show oif (j91 .i64 n) (some (AV.s (.int .i64 (Int.negSucc (Nat.div m (Nat.pow 2 n)))))) none=_
  rw [hs]
  have:Int.negSucc (Nat.div m (Nat.pow 2 n))=Int.negSucc m / 2 ^ n:=by
   obtain ⟨q,hq⟩:∃ q,2 ^ n=q+1:=⟨2 ^ n - 1,by have:=Nat.two_pow_pos n;omega⟩
   have h2:(2:Int) ^ n=((q+1:Nat):Int):=by rw [←hq,Int.natCast_pow];rfl
   have h3:Nat.pow 2 n=q+1:=hq
   rw [h2,h3];rfl
  rw [this];rfl
theorem jhd (h1:-9223372036854775808<=a) (h2:a<=9223372036854775807):jep .and (.int .i64 a) (.int .i64 1)=some (vi (a % 2)):=by
 have hr:=qa1 h1 h2
 cases a with
 | ofNat m =>
  show oif (inR .i64 (.ofNat m)) (some (AV.s (.int .i64 (.ofNat (Nat.land m 1))))) none=_
  rw [hr]
  have:Int.ofNat (Nat.land m 1)=Int.ofNat m % 2:=by
   rw [show Nat.land m 1=m % 2 from Nat.and_one_is_mod m];rfl
  rw [this];rfl
 | negSucc m =>
  show oif (inR .i64 (.negSucc m)) (some (AV.s (.int .i64 (.ofNat (Nat.xor 1 (Nat.land 1 m)))))) none=_
  rw [hr]
  have:Int.ofNat (Nat.xor 1 (Nat.land 1 m))=Int.negSucc m % 2:=by
   have e:Nat.land 1 m=m % 2:=(Nat.and_comm 1 m).trans (Nat.and_one_is_mod m)
   rw [e]
   rcases Nat.mod_two_eq_zero_or_one m with h | h
   ·rw [h];show (1:Int)=_;omega
   ·rw [h];show (0:Int)=_;omega
  rw [this];rfl
theorem qfu (h1:-9223372036854775808<=a) (h2:a<=9223372036854775807):jep .or (.int .i64 a) (.int .i64 1)=some (vi (a+(1 - a % 2))):=by
 have hr:=qa1 h1 h2
 cases a with
 | ofNat m =>
  show oif (inR .i64 (.ofNat m)) (some (AV.s (.int .i64 (.ofNat (Nat.lor m 1))))) none=_
  rw [hr]
  have:Int.ofNat (Nat.lor m 1)=Int.ofNat m+(1 - Int.ofNat m % 2):=by
   have e:m ||| 1=m+(1 - m % 2):=by
    have h1:(m ||| 1) / 2=m / 2:=by rw [Nat.or_div_two];simp
    have h2:(m ||| 1) % 2=1:=by rw [Nat.or_mod_two_eq_one];simp
    omega
   show ((m ||| 1:Nat):Int)=(m:Int)+(1 - (m:Int) % 2)
   rw [e];omega
  rw [this];rfl
 | negSucc m =>
  show oif (inR .i64 (.negSucc m)) (some (AV.s (.int .i64 (.negSucc (Nat.xor m (Nat.land m 1)))))) none=_
  rw [hr]
  have:Int.negSucc (Nat.xor m (Nat.land m 1))=Int.negSucc m+(1 - Int.negSucc m % 2):=by
   have e:m ^^^ (m &&& 1)=m - m % 2:=by
    have h1:(m ^^^ (m &&& 1)) / 2=m / 2:=by rw [Nat.xor_div_two,Nat.and_div_two];simp
    have h2:¬ (m ^^^ (m &&& 1)) % 2=1:=by
     have e:m &&& 1=m % 2:=Nat.and_one_is_mod m
     rw [e,Nat.xor_mod_two_eq_one];omega
    omega
   show Int.negSucc (m ^^^ (m &&& 1))=_
   rw [e];omega
  rw [this];rfl
end
structure Ok (h:Hp):Prop where
 hid:h.hid=[]
 lo:h.lo=0
 pos:1<=h.next
theorem jim {a b:Nat} (h:a<=b):Nat.ble a b=true:=by rw [jvd];exact h
theorem jcz:Ok h0:=⟨rfl,rfl,Nat.le_refl 1⟩
section
variable {h:Hp} {F:Fns} {st fr:List AV} {Q:Ex->St->Prop} {β:Type}
theorem jac {x:AB} (k:Ok h):Ok (h.push x):=⟨k.hid,k.lo,Nat.le_succ_of_le k.pos⟩
theorem jad {b:Nat} {x:Option AB} (k:Ok h):Ok (h.put b x):=⟨by rw [Hp.hid_put];exact k.hid,by rw [Hp.lo_put];exact k.lo,by rw [Hp.next_put];exact k.pos⟩
theorem jaw {x:AB} {n:Nat} (k:Ok h):(h.push x).get n=if n=h.next then some x else h.get n:=by
 rw [Hp.get_eq,Hp.get_eq,Hp.hid_push,k.hid]
 have e:jat [] n=false:=rfl
 rw [e]
 show (h.tr.put (Nat.succ h.next) h.next (some x)).get n=_
 split
 ·rename_i hn;subst hn;exact jbt _ _ _ _ k.pos (jmh _)
 ·rename_i hn;exact jb2 _ _ _ _ n k.pos (jmh _) hn
theorem jal {b n:Nat} {x:Option AB} (k:Ok h) (hb:1<=b):(h.put b x).get n=if n=b then x else h.get n:=by
 rw [Hp.get_eq,Hp.get_eq,Hp.hid_put,k.hid,Hp.tr_put]
 have e:jat [] n=false:=rfl
 rw [e]
 show (h.tr.put (Nat.succ b) b x).get n=_
 split
 ·rename_i hn;subst hn;exact jbt _ _ _ _ hb (jmh _)
 ·rename_i hn;exact jb2 _ _ _ _ n hb (jmh _) hn
noncomputable def Hp.hide (h:Hp) (lo:Nat) (hid:List (Nat×Nat)):Hp:=.mk h.next h.tr lo hid
theorem jaa {n:Nat}:jat [] n=false:=by cases n<;>rfl
theorem jjj {a b n:Nat} {l:List (Nat×Nat)}:jat ((a,b)::l) n=if a<=n/\n<b then true else jat l n:=by
 show oif (Nat.ble a n) (oif (Nat.ble (n+1) b) true (jat l n)) (jat l n)=_
 simp only [jav,jvd]
 by_cases h1:a<=n
 ·by_cases h2:n+1<=b
  ·rw [if_pos h1,if_pos h2,if_pos ⟨h1,h2⟩]
  ·rw [if_pos h1,if_neg h2,if_neg (fun h=>h2 h.2)]
 ·rw [if_neg h1,if_neg (fun h=>h1 h.1)]
theorem jex {lo n:Nat} {hid:List (Nat×Nat)} (k:Ok h):(h.hide lo hid).get n=if jat hid n=true then none else h.get n:=by
 rw [Hp.get_eq,Hp.get_eq,k.hid];rfl
theorem j3g {cs:List SV} {ty:TypeId} {f:Nat->Hp->Option β} (k:Ok h):nw h cs ty f=f h.next (h.push (.arr cs ty)):=by
 cases h with
 | mk n t lo hid =>
  obtain rfl:hid=[]:=k.hid
  rfl
noncomputable def rdB (x:Option AB) (off n:Nat):Option (List SV):=ob x (fun x=>AB.casesOn (motive:=fun _=>Option (List SV)) x (fun cs _=>jbw n (jb1 off cs)) (fun _ _=>none))
theorem jgg {cs:List SV} {ty:TypeId} {off n:Nat}:rdB (some (.arr cs ty)) off n=jbw n (jb1 off cs):=rfl
noncomputable def wrB (h:Hp) (b:Nat) (x:Option AB) (off:Nat) (xs:List SV):Option Hp:=ob x (fun x=>AB.casesOn (motive:=fun _=>Option Hp) x (fun cs ty=>ob (jbs off xs cs) (fun cs'=>some (h.put b (some (.arr cs' ty))))) (fun _ _=>none))
theorem qm8 {b off:Nat} {xs:List SV} (k:Ok h):wr h b off xs=wrB h b (h.get b) off xs:=by
 show oif (Nat.ble h.lo b) _ none=_
 rw [k.lo];rfl
theorem jo7 {b:Nat} {cs:List SV} {ty:TypeId} {off:Nat} {xs:List SV}:wrB h b (some (.arr cs ty)) off xs=ob (jbs off xs cs) (fun cs'=>some (h.put b (some (.arr cs' ty)))):=rfl
noncomputable def jmx (h:Hp) (n:Nat) (agg:Bool) (v:AV):Option AV:=jfa v (fun b off=>ob (rd h b off n) (fun cs=>jfb agg cs)) (fun cs=>ob (jbw n cs) (fun cs=>jfb agg cs))
theorem qfv {α γ:Type} {x:Option α} {f:α->Option β} {g:β->Option γ}:ob (ob x f) g=ob x (fun a=>ob (f a) g):=by cases x<;>rfl
theorem j09 {n:Nat} {agg:Bool} {x:Od}:jd9 st fr h (.load n agg x)=ob (ev st fr x) (fun v=>ob (jmx h n agg v) (fun v=>ok v h)):=by
 show ob (ev st fr x) (fun v=>jfa v (fun b off=>ob (rd h b off n) (fun cs=>ob (jfb agg cs) (fun v=>ok v h))) (fun cs=>ob (jbw n cs) (fun cs=>ob (jfb agg cs) (fun v=>ok v h))))=_
 congr 1
 funext v
 cases v with
 | s v=>cases v<;>first | rfl | (show ob _ _=ob (ob _ _) _;rw [qfv])
 | _=>rfl
noncomputable def j52 (h:Hp) (n:Nat) (p v:AV):R:=jr1 p (fun b off=>cel v (fun cs=>oif (Nat.beq (jc5 cs) n) (ob (wr h b off cs) (fun h=>ok .undef h)) none))
theorem qa2 {b o:Nat} {v:SV} (k:Ok h):j52 h 1 (.s (.ptr b o)) (.s v)=ob (wrB h b (h.get b) o [v]) (fun h=>ok .undef h):=by
 show ob (wr h b o [v]) _=_
 rw [qm8 k]
theorem j3h {n b o:Nat} {cs:List SV} (k:Ok h) (hn:cs.length=n):j52 h n (.s (.ptr b o)) (.agg cs)=ob (wrB h b (h.get b) o cs) (fun h=>ok .undef h):=by
 show oif (Nat.beq (jc5 cs) n) (ob (wr h b o cs) _) none=_
 rw [qm8 k,jbm,hn,Nat.beq_refl];rfl
theorem jhe {e:TypeId} {z:List SV} (k:Ok h):jd9 st fr h (.new e z)=some (.s (.ptr h.next 0),h.push (.arr z e)):=by
 show nw h z e (fun n h=>ok (.s (.ptr n 0)) h)=_
 rw [j3g k];rfl
theorem qfw {e:TypeId} {x:Od} (k:Ok h):jd9 st fr h (.box e x)=ob (ev st fr x) (fun v=>cel v (fun cs=>some (.s (.ptr h.next 0),h.push (.arr cs e)))):=by
 show ob (ev st fr x) (fun v=>cel v (fun cs=>nw h cs e (fun n h=>ok (.s (.ptr n 0)) h)))=_
 congr 1;funext v;congr 1;funext cs;rw [j3g k];rfl
theorem j3i {e:TypeId} {size:Nat} {z:List SV} {len:Nat} {ps:List (Nat×Nat×Od)} (k:Ok h):jd9 st fr h (.bslice e size z len ps)=ob (fill st fr ps z) (fun cs=>some (.s (.slice h.next 0 len len true size),h.push (.arr cs e))):=by
 show ob (fill st fr ps z) (fun cs=>nw h cs e (fun n h=>ok (.s (.slice n 0 len len true size)) h))=_
 congr 1;funext cs;rw [j3g k];rfl
noncomputable def qqc (h:Hp) (e:TypeId) (size bytes:Nat) (z:List SV) (l c:AV):R:=qcm l (fun m=>qcm c (fun k=>oif (Nat.ble m k) (oif (Nat.ble (Nat.mul bytes k) 1000000000) (oif (Nat.ble k 1000000000) (nw h (rep z k) e (fun b h=>ok (.s (.slice b 0 m k true size)) h)) none) none) none))
theorem jyt {e:TypeId} {size bytes:Nat} {z:List SV} {m:Nat} (k:Ok h) (h1:bytes*m<=1000000000) (h2:m<=1000000000):qqc h e size bytes z (vi m) (vi m)=some (.s (.slice h.next 0 m m true size),h.push (.arr (rep z m) e)):=by
 show oif (Nat.ble m m) (oif (Nat.ble (Nat.mul bytes m) 1000000000) (oif (Nat.ble m 1000000000) (nw h (rep z m) e _) none) none) none=_
 rw [j3g k,jim (Nat.le_refl m),jim h2,show Nat.ble (Nat.mul bytes m) 1000000000=true from jim h1];rfl
noncomputable def jxu (size:Nat) (v w:AV):Option AV:=jc8 v none (fun b off len _ _ _=>ji7 w len (fun m=>some (.s (.ptr b (Nat.add off (Nat.mul m size))))))
 (fun rows=>ji7 w (jc5 rows) (fun m=>ob (jee rows m) (fun row=>oif (Nat.beq (jc5 row) size) (some (.s (.cp row))) none))) none
theorem jh7 {m n:Nat} {f:Nat->Option β} (hm:m<n):ji7 (vi (m:Int)) n f=f m:=by
 show oif (Nat.ble (Nat.succ m) n) (f m) none=_
 rw [jim (show Nat.succ m<=n from hm)];rfl
theorem jbi {size b off len mc sz m:Nat} {ex:Bool} (hm:m<len):jxu size (.s (.slice b off len mc ex sz)) (vi (m:Int))=some (.s (.ptr b (off+m*size))):=jh7 (f:=fun m=>some (AV.s (.ptr b (Nat.add off (Nat.mul m size))))) hm
theorem jcm {size b off len mc sz:Nat} {ex:Bool} (hm:0<len):jxu size (.s (.slice b off len mc ex sz)) (vi 0)=some (.s (.ptr b off)):=by
 have:=jh7 (f:=fun m=>some (AV.s (.ptr b (Nat.add off (Nat.mul m size))))) hm
 refine this.trans ?_
 show some (AV.s (.ptr b (off+0*size)))=_
 rw [Nat.zero_mul,Nat.add_zero]
theorem js1 {size m:Nat} {rows:List (List SV)} {row:List SV} (hr:rows[m]?=some row) (hl:row.length=size):jxu size (.s (.lst rows)) (vi (m:Int))=some (.s (.cp row)):=by
 have hm:m<rows.length:=by
  rcases Nat.lt_or_ge m rows.length with h | h
  ·exact h
  ·rw [List.getElem?_eq_none h] at hr;cases hr
 have:=jh7 (f:=fun m=>ob (jee rows m) (fun row=>oif (Nat.beq (jc5 row) size) (some (AV.s (.cp row))) none)) (show m<jc5 rows by rw [jbm];exact hm)
 refine this.trans ?_
 rw [jcg,hr]
 show oif (Nat.beq (jc5 row) size) _ none=_
 rw [jbm,hl,Nat.beq_refl];rfl
noncomputable def qcz (n size:Nat) (v w:AV):Option AV:=jfa v (fun b off=>ji7 w n (fun m=>some (.s (.ptr b (Nat.add off (Nat.mul m size)))))) (fun cs=>ji7 w n (fun m=>some (.s (.cp (jb1 (Nat.mul m size) cs)))))
theorem jcu {n size b off m:Nat} (hm:m<n):qcz n size (.s (.ptr b off)) (vi (m:Int))=some (.s (.ptr b (off+m*size))):=jh7 (f:=fun m=>some (AV.s (.ptr b (Nat.add off (Nat.mul m size))))) hm
theorem jfi {n size m:Nat} {cs:List SV} (hm:m<n):qcz n size (.s (.cp cs)) (vi (m:Int))=some (.s (.cp (jb1 (m*size) cs))):=jh7 (f:=fun m=>some (AV.s (.cp (jb1 (Nat.mul m size) cs)))) hm
noncomputable def qta (h:Hp) (e:TypeId) (size bytes b n m:Nat) (x:Option AB) (new:List SV):R :=
 jqj bytes (Nat.add n m) (ob x (fun x=>AB.casesOn (motive:=fun _=>R) x (fun cs ty =>
  ob (jbw (Nat.mul n size) (jb1 0 cs)) (fun old=>(oif (Nat.ble h.lo b) (oif (Nat.beq ty e) (nw (h.put b none) (jhn old new) e (fun k h=>ok (.s (.slice k 0 (Nat.add n m) (Nat.add n m) false size)) h)) none) none))) (fun _ _=>none)))
noncomputable def jve (h:Hp) (e:TypeId) (size bytes:Nat) (v w:AV):R:=jc8 w (j9y v (ok v h)) (fun b' off' m _ _ _=>ob (rd h b' off' (Nat.mul m size)) (fun new=>j2t h e size bytes m v new))
 (fun rows=>ob (j96 size rows) (fun new=>j2t h e size bytes (jc5 rows) v new)) (j9y v (ok v h))
theorem jqm {e:TypeId} {size bytes b' o' m mc' sz':Nat} {ex':Bool}:jve h e size bytes (.s .nilSlice) (.s (.slice b' o' m mc' ex' sz'))=ob (rdB (h.get b') o' (m*size)) (fun new=>Nat.casesOn (motive:=fun _=>R) m (some (.s .nilSlice,h)) (fun _=>jqj bytes m (nw h new e (fun k h=>ok (.s (.slice k 0 m m false size)) h)))):=rfl
theorem j1a {bytes n:Nat} {x:R} (h1:n*bytes<=1000000000) (h2:n<=1000000000):jqj bytes n x=x:=by
 show oif (Nat.ble (Nat.mul n bytes) 1000000000) (oif (Nat.ble n 1000000000) x none) none=_
 rw [show Nat.ble (Nat.mul n bytes) 1000000000=true from jim h1,jim h2];rfl
theorem jmy {e:TypeId} {size bytes b n b' o' m mc' sz':Nat} {ex':Bool} (hm:1<=m):jve h e size bytes (.s (.slice b 0 n n false size)) (.s (.slice b' o' m mc' ex' sz'))=ob (rdB (h.get b') o' (m*size)) (fun new=>qta h e size bytes b n m (h.get b) new):=by
 show ob (rdB (h.get b') o' (m*size)) (fun new=>oif (Nat.beq size size) (oif (Nat.ble (Nat.add n m) n) _ (jqj bytes (Nat.add n m) (jr3 h e size b 0 n m false new))) none)=_
 congr 1
 funext new
 have e1:Nat.ble (Nat.add n m) n=false:=by
  cases e:Nat.ble (Nat.add n m) n with
  | false=>rfl
  | true=>rw [jvd] at e;have:n+m<=n:=e;omega
 rw [Nat.beq_refl]
 show oif (Nat.ble (Nat.add n m) n) _ _=_
 rw [e1]
 rfl
theorem qfx {e:TypeId} {size bytes b n m:Nat} {cs new:List SV} (k:Ok h) (hc:cs.length=n*size) (h1:(n+m)*bytes<=1000000000) (h2:n+m<=1000000000) :
 qta h e size bytes b n m (some (.arr cs e)) new=some (.s (.slice h.next 0 (n+m) (n+m) false size),(h.put b none).push (.arr (cs++new) e)):=by
 show jqj bytes (n+m) (ob (jbw (n*size) cs) (fun old=>oif (Nat.ble h.lo b) (oif (Nat.beq e e) (nw (h.put b none) (jhn old new) e _) none) none))=_
 rw [j1a h1 h2,(jbd _).2 ⟨Nat.le_of_eq hc.symm,rfl⟩,←hc,List.take_length]
 show oif (Nat.ble h.lo b) (oif (Nat.beq e e) (nw (h.put b none) (jhn cs new) e _) none) none=_
 rw [k.lo,Nat.beq_refl,j3g (jad k),jdq,Hp.next_put]
 rfl
noncomputable def qty (v:AV):Option (Bool×List SV):=AV.casesOn (motive:=fun _=>Option (Bool×List SV)) v (fun s=>some (false,[s])) (fun l=>some (true,l)) (fun _=>none) none none
theorem jl0:jgl fr h []=some []:=rfl
theorem jfj {r:IR} {l:List IR}:jgl fr h (r::l)=ob (jmw fr h r) (fun v=>ob (jgl fr h l) (fun x=>some (v::x))):=rfl
theorem jl1:jcf (.mk fr h) []=some (.tup [],h):=rfl
theorem j3j {r:IR}:jcf (.mk fr h) [r]=ob (jmw fr h r) (fun p=>ob (jfb p.1 p.2) (fun v=>some (v,h))):=by
 show ob (ob (jmw fr h r) (fun v=>ob (some []) (fun x=>some (v::x)))) (fun vs=>List.casesOn (motive:=fun _=>R) vs (ok (.tup []) h) (fun p r=>List.casesOn (motive:=fun _=>R) r (ob (jfb p.1 p.2) (fun v=>ok v h)) (fun _ _=>ok (.tup vs) h)))=_
 cases jmw fr h r<;>rfl
theorem j3k {r r':IR} {l:List IR}:jcf (.mk fr h) (r::r'::l)=ob (jgl fr h (r::r'::l)) (fun vs=>some (.tup vs,h)):=by
 show ob (jgl fr h (r::r'::l)) (fun vs=>List.casesOn (motive:=fun _=>R) vs (ok (.tup []) h) (fun p r=>List.casesOn (motive:=fun _=>R) r (ob (jfb p.1 p.2) (fun v=>ok v h)) (fun _ _=>ok (.tup vs) h)))=_
 rw [jfj,jfj]
 cases jmw fr h r with
 | none=>rfl
 | some a=>cases jmw fr h r' with
  | none=>rfl
  | some b=>cases jgl fr h l<;>rfl
theorem qfy {v:AV}:ok v h=some (v,h):=rfl
theorem jyu {es:List Ent} {hid:List (Nat×Nat)}:sel es [] hid=some hid:=rfl
theorem js2 {es:List Ent} {j:Nat} {js:List Nat} {hid:List (Nat×Nat)}:sel es (j::js) hid=ob (jee es j) (fun e=>ob (sel es js hid) (fun l=>Ent.casesOn (motive:=fun _=>Option (List (Nat×Nat))) e (fun iv _=>some (iv++l)))):=by
 show ob (jee es j) (fun e=>ob (sel es js hid) (fun l=>Ent.casesOn (motive:=fun _=>Option (List (Nat×Nat))) e (fun iv _=>some (jhn iv l))))=_
 simp only [jdq]
def fpV:AV->List Nat
 | .s (.ptr b _)=>[b]
 | _=>[]
theorem jyv {b o:Nat}:fpV (.s (.ptr b o))=[b]:=rfl
theorem j53 {cs:List SV}:fpV (.s (.cp cs))=[]:=rfl
theorem jwd {es:List Ent} {dst:Option Nat} {n:Nat} {agg:Bool} {x:Od} {js:List Nat} {l:List (IOper×Option (List Nat))}:WD F ((.mk dst (.a (.load n agg x)) none,some js)::l) st es fr h Q=obP (sel es js h.hid) (fun hid'=>obP (ev st fr x) (fun p=>obP (jmx (h.hide h.next hid') n agg p) (fun v=>WD F l (v::st) (.mk [] (some (fpV p))::es) (jce fr dst v) h Q))):=by
 cases h with
 | mk k t lo hid =>
 rw [j5q (x:=ob (sel es js hid) (fun hid'=>ob (ev st fr x) (fun p=>ob (jmx (.mk k t k hid') n agg p) (fun v=>some (DR.mk v (.mk k t lo hid) (.mk [] (some (fpV p)))))))) (fun cl=>?_)]
 ·refine propext ⟨fun ⟨p,h1,h2⟩=>?_,fun ⟨hid',h0,q,h1,v,h2,h3⟩=>⟨.mk v (.mk k t lo hid) (.mk [] (some (fpV q))),jab.2 ⟨hid',h0,jab.2 ⟨q,h1,jab.2 ⟨v,h2,rfl⟩⟩⟩,h3⟩⟩
  obtain ⟨hid',h3,h4⟩:=jab.1 h1
  obtain ⟨q,h5,h6⟩:=jab.1 h4
  obtain ⟨v,h7,h8⟩:=jab.1 h6
  cases h8
  exact ⟨hid',h3,q,h5,v,h7,h2⟩
 ·show jmf cl st fr es (.mk k t lo hid) (.a (.load n agg x)) js=_
  show ob (sel es js hid) (fun hid'=>Cls.casesOn (motive:=fun _=>Option DR) (jvk (ob (ev st fr x) (fun v=>jfa v (fun b _=>some (Cls.load b)) (fun _=>some .quiet))) (fun c=>c))
   (jm4 cl st fr k t lo k hid hid' (.a (.load n agg x)) (fun n'=>.mk [(k,n')] (some [])))
   (fun x'=>jm4 cl st fr k t lo k hid hid' (.a (.load n agg x)) (fun _=>.mk [] (some [x'])))
   (fun b=>oif (jjx es js b) (oif (Nat.ble lo b) (ob (Hp.get (.mk k t lo hid') b) (fun _=>jm4 cl st fr k t lo lo hid hid' (.a (.load n agg x)) (fun n'=>.mk [(b,Nat.succ b),(k,n')] none))) none) none)
   (jm4 cl st fr k t lo k hid hid' (.a (.load n agg x)) (fun _=>.mk [] (some [])))
   (jm4 cl st fr k t lo k hid hid' (.a (.load n agg x)) (fun n'=>.mk [(k,n')] none)))=_
  congr 1
  funext hid'
  have key:∀ e:Nat->Ent,jm4 cl st fr k t lo k hid hid' (.a (.load n agg x)) e=ob (ev st fr x) (fun p=>ob (jmx (.mk k t k hid') n agg p) (fun v=>some (DR.mk v (.mk k t lo hid) (e k)))):=fun e=>by
   show ob (aop cl st fr (.mk k t k hid') (.load n agg x)) _=_
   rw [jjf (show AO.calls (.load n agg x)=false from rfl),j09]
   cases ev st fr x with
   | none=>rfl
   | some p =>
    show ob (ob (jmx (.mk k t k hid') n agg p) _) _=ob (jmx (.mk k t k hid') n agg p) _
    cases jmx (.mk k t k hid') n agg p<;>rfl
  have k1:=key (fun n'=>.mk [(k,n')] none)
  have k3:=key (fun _=>.mk [] (some []))
  have k2:=fun b=>key (fun _=>.mk [] (some [b]))
  cases hx:ev st fr x with
  | none =>
   rw [hx] at k1
   exact k1
  | some p =>
   rw [hx] at k1 k3
   simp only [hx] at k2
   cases p with
   | s p =>
    cases p with
    | ptr b o=>exact k2 b
    | cp cs=>exact k3
    | _=>exact k1
   | _=>exact k1
theorem jqn {es:List Ent} {dst:Option Nat} {e:TypeId} {size:Nat} {z:List SV} {len:Nat} {ps:List (Nat×Nat×Od)} {js:List Nat} {l:List (IOper×Option (List Nat))}:WD F ((.mk dst (.a (.bslice e size z len ps)) none,some js)::l) st es fr h Q=obP (sel es js h.hid) (fun hid'=>obP (fill st fr ps z) (fun cs=>jat hid' h.next=false/\WD F l (.s (.slice h.next 0 len len true size)::st) (.mk [(h.next,h.next+1)] (some [])::es) (jce fr dst (.s (.slice h.next 0 len len true size))) (h.push (.arr cs e)) Q)):=by
 cases h with
 | mk k t lo hid =>
 rw [j5q (x:=ob (sel es js hid) (fun hid'=>ob (fill st fr ps z) (fun cs=>oif (jat hid' k) none (some (DR.mk (.s (.slice k 0 len len true size)) ((Hp.mk k t lo hid).push (.arr cs e)) (.mk [(k,k+1)] (some []))))))) (fun cl=>?_)]
 ·refine propext ⟨fun ⟨p,h1,h2⟩=>?_,fun ⟨hid',h0,cs,h1,h2,h3⟩=>⟨DR.mk (.s (.slice k 0 len len true size)) ((Hp.mk k t lo hid).push (.arr cs e)) (.mk [(k,k+1)] (some [])),jab.2 ⟨hid',h0,jab.2 ⟨cs,h1,?_⟩⟩,h3⟩⟩
  ·obtain ⟨hid',h3,h4⟩:=jab.1 h1
   obtain ⟨cs,h5,h6⟩:=jab.1 h4
   rw [jav] at h6
   split at h6
   ·cases h6
   ·rename_i h7
    cases h6
    exact ⟨hid',h3,cs,h5,Bool.eq_false_iff.2 h7,h2⟩
  ·have h2':jat hid' k=false:=h2
   rw [h2'];rfl
 ·show jmf cl st fr es (.mk k t lo hid) (.a (.bslice e size z len ps)) js=_
  show ob (sel es js hid) (fun hid'=>ob (ob (fill st fr ps z) (fun cs=>oif (jat hid' k) none (ok (.s (.slice k 0 len len true size)) (Hp.mk (Nat.succ k) (t.put (Nat.succ k) k (some (.arr cs e))) k hid')))) (fun p=>Hp.casesOn (motive:=fun _=>Option DR) p.2 (fun n' t' _ _=>some (.mk p.1 (.mk n' t' lo hid) (.mk [(k,n')] (some []))))))=_
  congr 1
  funext hid'
  cases fill st fr ps z with
  | none=>rfl
  | some cs =>
   show ob (oif (jat hid' k) none _) _=oif (jat hid' k) none _
   cases jat hid' k<;>rfl
end
section
variable {F:Fns} {s:St} {st fr:List AV} {h h':Hp} {Q:Ex->St->Prop} {l:List IOper} {dst:Option Nat} {v w:AV} {m:List (IOper×Option (List Nat))} {es:List Ent}
def zpO (F:Fns) (x:Option AV) (dst:Option Nat) (l:List IOper) (st fr:List AV) (h:Hp) (Q:Ex->St->Prop):Prop:=obP x (fun v=>WO F l (v::st) (jce fr dst v) h Q)
theorem js3:zpO F (some v) dst l st fr h Q=WO F l (v::st) (jce fr dst v) h Q:=jcl
def zmO (F:Fns) (x:R) (dst:Option Nat) (l:List IOper) (st fr:List AV) (Q:Ex->St->Prop):Prop:=obP x (fun p=>WO F l (p.1::st) (jce fr dst p.1) p.2 Q)
theorem js4:zmO F (some (v,h)) dst l st fr Q=WO F l (v::st) (jce fr dst v) h Q:=jcl
def qfz (F:Fns) (dst:Option Nat) (l:List IOper) (st fr:List AV) (Q:Ex->St->Prop) (v:AV) (h:Hp):Prop:=WO F l (v::st) (jce fr dst v) h Q
theorem js5:qfz F dst l st fr Q v h=WO F l (v::st) (jce fr dst v) h Q:=rfl
def zkO (F:Fns) (x:Option (List AV)) (f:FuncId) (dst:Option Nat) (l:List IOper) (st fr:List AV) (h:Hp) (Q:Ex->St->Prop):Prop:=obP x (fun vs=>WC F f vs h (qfz F dst l st fr Q))
theorem js6 {vs:List AV} {f:FuncId}:zkO F (some vs) f dst l st fr h Q=WC F f vs h (qfz F dst l st fr Q):=jcl
def zgO (F:Fns) (x:Option AV) (t:Bool) (dst:Option Nat) (op:IOp) (l:List IOper) (st fr:List AV) (h:Hp) (Q:Ex->St->Prop):Prop:=gP x t (WO F (.mk dst op none::l) st fr h Q) (WO F l (.undef::st) (jce fr dst .undef) h Q)
theorem js7 {b t:Bool} {op:IOp}:zgO F (some (.s (.bool b))) t dst op l st fr h Q=if b=t then WO F (.mk dst op none::l) st fr h Q else WO F l (.undef::st) (jce fr dst .undef) h Q:=j5o
theorem jo8 {t:Bool} {op:IOp}:zgO F (some .undef) t dst op l st fr h Q=WO F l (.undef::st) (jce fr dst .undef) h Q:=j07
def zcO (F:Fns) (x:Option AV) (a b:IC) (fr:List AV) (h:Hp) (Q:Ex->St->Prop):Prop:=qq0 x (W F a (.mk fr h) Q) (W F b (.mk fr h) Q)
theorem js8 {b:Bool} {x y:IC}:zcO F (some (.s (.bool b))) x y fr h Q=if b=true then W F x (.mk fr h) Q else W F y (.mk fr h) Q:=j5j
theorem jyw {c:Od} {x y:IC}:W F (.cond c x y) (.mk fr h) Q=zcO F (ev [] fr c) x y fr h Q:=qm5
theorem jyx {o:PO}:WO F (.mk dst (.p o) none::l) st fr h Q=zpO F (pop st fr o) dst l st fr h Q:=qfm
theorem jyy {f:FuncId} {as:List Od}:WO F (.mk dst (.a (.call f as)) none::l) st fr h Q=zkO F (evs st fr as) f dst l st fr h Q:=qfn
theorem js9 {op:IOp} {i:Nat} {t:Bool}:WO F (.mk dst op (some (i,t))::l) st fr h Q=zgO F (jee st i) t dst op l st fr h Q:=qax
theorem j1b {x:Od} {as:List Od} {f:FuncId} {caps:List (Nat×Nat)} (hx:ev st fr x=some (.s (.func f caps))):WO F (.mk dst (.a (.callv x as)) none::l) st fr h Q=zkO F (ob (evs st fr as) (fun vs=>some (vs++jgj caps))) f dst l st fr h Q:=by
 rw [qaw]
 refine propext ⟨fun ⟨g,cs,h1,vs,h2,h3⟩=>?_,fun ⟨vs,h1,h2⟩=>?_⟩
 ·rw [hx] at h1;cases h1
  exact ⟨_,jab.2 ⟨vs,h2,rfl⟩,h3⟩
 ·obtain ⟨us,h3,h4⟩:=jab.1 h1
  cases h4
  exact ⟨f,caps,hx,us,h3,h2⟩
def zpD (F:Fns) (x:Option AV) (e:Ent) (dst:Option Nat) (m:List (IOper×Option (List Nat))) (st:List AV) (es:List Ent) (fr:List AV) (h:Hp) (Q:Ex->St->Prop):Prop:=obP x (fun v=>WD F m (v::st) (e::es) (jce fr dst v) h Q)
theorem jta {e:Ent}:zpD F (some v) e dst m st es fr h Q=WD F m (v::st) (e::es) (jce fr dst v) h Q:=jcl
def zmD (F:Fns) (x:R) (dst:Option Nat) (m:List (IOper×Option (List Nat))) (st:List AV) (es:List Ent) (fr:List AV) (Q:Ex->St->Prop):Prop:=obP x (fun p=>WD F m (p.1::st) (.mk [] (some [])::es) (jce fr dst p.1) p.2 Q)
theorem jtb:zmD F (some (v,h)) dst m st es fr Q=WD F m (v::st) (.mk [] (some [])::es) (jce fr dst v) h Q:=jcl
def qf0 (F:Fns) (dst:Option Nat) (m:List (IOper×Option (List Nat))) (st:List AV) (es:List Ent) (fr:List AV) (Q:Ex->St->Prop) (v:AV) (h:Hp):Prop:=WD F m (v::st) (.mk [] (some [])::es) (jce fr dst v) h Q
theorem jtc:qf0 F dst m st es fr Q v h=WD F m (v::st) (.mk [] (some [])::es) (jce fr dst v) h Q:=rfl
def zkD (F:Fns) (x:Option (List AV)) (f:FuncId) (dst:Option Nat) (m:List (IOper×Option (List Nat))) (st:List AV) (es:List Ent) (fr:List AV) (h:Hp) (Q:Ex->St->Prop):Prop:=obP x (fun vs=>WC F f vs h (qf0 F dst m st es fr Q))
theorem jtd {vs:List AV} {f:FuncId}:zkD F (some vs) f dst m st es fr h Q=WC F f vs h (qf0 F dst m st es fr Q):=jcl
def zgD (F:Fns) (x:Option AV) (t:Bool) (dst:Option Nat) (op:IOp) (o:Option (List Nat)) (m:List (IOper×Option (List Nat))) (st:List AV) (es:List Ent) (fr:List AV) (h:Hp) (Q:Ex->St->Prop):Prop:=gP x t (WD F ((.mk dst op none,o)::m) st es fr h Q) (WD F m (.undef::st) (.mk [] (some [])::es) (jce fr dst .undef) h Q)
theorem jte {b t:Bool} {op:IOp} {o:Option (List Nat)}:zgD F (some (.s (.bool b))) t dst op o m st es fr h Q=if b=t then WD F ((.mk dst op none,o)::m) st es fr h Q else WD F m (.undef::st) (.mk [] (some [])::es) (jce fr dst .undef) h Q:=j5o
theorem jo9 {t:Bool} {op:IOp} {o:Option (List Nat)}:zgD F (some .undef) t dst op o m st es fr h Q=WD F m (.undef::st) (.mk [] (some [])::es) (jce fr dst .undef) h Q:=j07
theorem jyz {o:PO}:WD F ((.mk dst (.p o) none,none)::m) st es fr h Q=zpD F (pop st fr o) (.mk [] (some [])) dst m st es fr h Q:=qfo
theorem jy0 {f:FuncId} {as:List Od}:WD F ((.mk dst (.a (.call f as)) none,none)::m) st es fr h Q=zkD F (evs st fr as) f dst m st es fr h Q:=qfp
theorem jtf {op:IOp} {i:Nat} {t:Bool} {o:Option (List Nat)}:WD F ((.mk dst op (some (i,t)),o)::m) st es fr h Q=zgD F (jee st i) t dst op o m st es fr h Q:=qay
def qtb (F:Fns) (x:Option (List (Nat×Nat))) (o:Option AV) (dst:Option Nat) (m:List (IOper×Option (List Nat))) (st:List AV) (es:List Ent) (fr:List AV) (h:Hp) (Q:Ex->St->Prop):Prop:=obP x (fun _=>zpD F o (.mk [(h.next,h.next)] (some [])) dst m st es fr h Q)
theorem jpa {x:List (Nat×Nat)} {o:Option AV}:qtb F (some x) o dst m st es fr h Q=zpD F o (.mk [(h.next,h.next)] (some [])) dst m st es fr h Q:=jcl
theorem jh8 {o:PO} {js:List Nat}:WD F ((.mk dst (.p o) none,some js)::m) st es fr h Q=qtb F (sel es js h.hid) (pop st fr o) dst m st es fr h Q:=jwb
def qq6 (F:Fns) (x:Option (List (Nat×Nat))) (n:Nat) (agg:Bool) (p:Option AV) (dst:Option Nat) (m:List (IOper×Option (List Nat))) (st:List AV) (es:List Ent) (fr:List AV) (h:Hp) (Q:Ex->St->Prop):Prop:=obP x (fun hid'=>obP p (fun p=>zpD F (jmx (h.hide h.next hid') n agg p) (.mk [] (some (fpV p))) dst m st es fr h Q))
theorem jpb {x:List (Nat×Nat)} {n:Nat} {agg:Bool}:qq6 F (some x) n agg (some w) dst m st es fr h Q=zpD F (jmx (h.hide h.next x) n agg w) (.mk [] (some (fpV w))) dst m st es fr h Q:=by
 unfold qq6;rw [jcl,jcl]
theorem jh9 {n:Nat} {agg:Bool} {x:Od} {js:List Nat}:WD F ((.mk dst (.a (.load n agg x)) none,some js)::m) st es fr h Q=qq6 F (sel es js h.hid) n agg (ev st fr x) dst m st es fr h Q:=jwd
def qq7 (F:Fns) (x:Option (List (Nat×Nat))) (cs:Option (List SV)) (e:TypeId) (size len:Nat) (dst:Option Nat) (m:List (IOper×Option (List Nat))) (st:List AV) (es:List Ent) (fr:List AV) (h:Hp) (Q:Ex->St->Prop):Prop:=obP x (fun hid'=>obP cs (fun cs=>jat hid' h.next=false/\WD F m (.s (.slice h.next 0 len len true size)::st) (.mk [(h.next,h.next+1)] (some [])::es) (jce fr dst (.s (.slice h.next 0 len len true size))) (h.push (.arr cs e)) Q))
theorem jpc {x:List (Nat×Nat)} {cs:List SV} {e:TypeId} {size len:Nat} (hx:jat x h.next=false):qq7 F (some x) (some cs) e size len dst m st es fr h Q=WD F m (.s (.slice h.next 0 len len true size)::st) (.mk [(h.next,h.next+1)] (some [])::es) (jce fr dst (.s (.slice h.next 0 len len true size))) (h.push (.arr cs e)) Q:=by
 unfold qq7;rw [jcl,jcl];exact propext ⟨fun h=>h.2,fun h=>⟨hx,h⟩⟩
theorem jgh {e:TypeId} {size:Nat} {z:List SV} {len:Nat} {ps:List (Nat×Nat×Od)} {js:List Nat}:WD F ((.mk dst (.a (.bslice e size z len ps)) none,some js)::m) st es fr h Q=qq7 F (sel es js h.hid) (fill st fr ps z) e size len dst m st es fr h Q:=jqn
def qtz (F:Fns) (x:Option (List (Nat×Nat))) (u:AV) (dst:Option Nat) (m:List (IOper×Option (List Nat))) (st:List AV) (es:List Ent) (fr:List AV) (h:Hp) (Q:Ex->St->Prop):Prop:=obP x (fun _=>WD F m (u::st) (.mk [(h.next,h.next)] none::es) (jce fr dst u) h Q)
theorem jpd {x:List (Nat×Nat)} {u:AV}:qtz F (some x) u dst m st es fr h Q=WD F m (u::st) (.mk [(h.next,h.next)] none::es) (jce fr dst u) h Q:=jcl
theorem j54 {e:TypeId} {z:List SV}:WO F (.mk dst (.a (.new e z)) none::l) st fr h Q=zmO F (jd9 st fr h (.new e z)) dst l st fr Q:=jf7 rfl
theorem j55 {e:TypeId} {z:List SV}:WD F ((.mk dst (.a (.new e z)) none,none)::m) st es fr h Q=zmD F (jd9 st fr h (.new e z)) dst m st es fr Q:=jf8 rfl
theorem j56 {e:TypeId} {x:Od}:WO F (.mk dst (.a (.box e x)) none::l) st fr h Q=zmO F (jd9 st fr h (.box e x)) dst l st fr Q:=jf7 rfl
theorem j57 {e:TypeId} {x:Od}:WD F ((.mk dst (.a (.box e x)) none,none)::m) st es fr h Q=zmD F (jd9 st fr h (.box e x)) dst m st es fr Q:=jf8 rfl
theorem jpe {e:TypeId} {size:Nat} {z:List SV} {len:Nat} {ps:List (Nat×Nat×Od)}:WO F (.mk dst (.a (.bslice e size z len ps)) none::l) st fr h Q=zmO F (jd9 st fr h (.bslice e size z len ps)) dst l st fr Q:=jf7 rfl
theorem jpf {e:TypeId} {size:Nat} {z:List SV} {len:Nat} {ps:List (Nat×Nat×Od)}:WD F ((.mk dst (.a (.bslice e size z len ps)) none,none)::m) st es fr h Q=zmD F (jd9 st fr h (.bslice e size z len ps)) dst m st es fr Q:=jf8 rfl
theorem jl2 {e:TypeId} {size bytes:Nat} {z:List SV} {x y:Od}:WO F (.mk dst (.a (.mkslice e size bytes z x y)) none::l) st fr h Q=zmO F (jd9 st fr h (.mkslice e size bytes z x y)) dst l st fr Q:=jf7 rfl
theorem jl3 {e:TypeId} {size bytes:Nat} {z:List SV} {x y:Od}:WD F ((.mk dst (.a (.mkslice e size bytes z x y)) none,none)::m) st es fr h Q=zmD F (jd9 st fr h (.mkslice e size bytes z x y)) dst m st es fr Q:=jf8 rfl
theorem jy1 {n:Nat} {agg:Bool} {x:Od}:WO F (.mk dst (.a (.load n agg x)) none::l) st fr h Q=zmO F (jd9 st fr h (.load n agg x)) dst l st fr Q:=jf7 rfl
theorem jy2 {n:Nat} {agg:Bool} {x:Od}:WD F ((.mk dst (.a (.load n agg x)) none,none)::m) st es fr h Q=zmD F (jd9 st fr h (.load n agg x)) dst m st es fr Q:=jf8 rfl
theorem jtg {n:Nat} {x y:Od}:WO F (.mk dst (.a (.store n x y)) none::l) st fr h Q=zmO F (jd9 st fr h (.store n x y)) dst l st fr Q:=jf7 rfl
theorem jth {n:Nat} {x y:Od}:WD F ((.mk dst (.a (.store n x y)) none,none)::m) st es fr h Q=zmD F (jd9 st fr h (.store n x y)) dst m st es fr Q:=jf8 rfl
theorem j58 {e:TypeId} {size bytes:Nat} {x y:Od}:WO F (.mk dst (.a (.app e size bytes x y)) none::l) st fr h Q=zmO F (jd9 st fr h (.app e size bytes x y)) dst l st fr Q:=jf7 rfl
theorem j59 {e:TypeId} {size bytes:Nat} {x y:Od}:WD F ((.mk dst (.a (.app e size bytes x y)) none,none)::m) st es fr h Q=zmD F (jd9 st fr h (.app e size bytes x y)) dst m st es fr Q:=jf8 rfl
theorem jy3 {size:Nat} {x y:Od}:WO F (.mk dst (.a (.copy size x y)) none::l) st fr h Q=zmO F (jd9 st fr h (.copy size x y)) dst l st fr Q:=jf7 rfl
theorem jy4 {size:Nat} {x y:Od}:WD F ((.mk dst (.a (.copy size x y)) none,none)::m) st es fr h Q=zmD F (jd9 st fr h (.copy size x y)) dst m st es fr Q:=jf8 rfl
theorem jti {z:List SV} {x:Od}:WO F (.mk dst (.a (.clear z x)) none::l) st fr h Q=zmO F (jd9 st fr h (.clear z x)) dst l st fr Q:=jf7 rfl
theorem jtj {z:List SV} {x:Od}:WD F ((.mk dst (.a (.clear z x)) none,none)::m) st es fr h Q=zmD F (jd9 st fr h (.clear z x)) dst m st es fr Q:=jf8 rfl
theorem jtk {va:Bool}:WO F (.mk dst (.a (.mkmap va)) none::l) st fr h Q=zmO F (jd9 st fr h (.mkmap va)) dst l st fr Q:=jf7 rfl
theorem jtl {va:Bool}:WD F ((.mk dst (.a (.mkmap va)) none,none)::m) st es fr h Q=zmD F (jd9 st fr h (.mkmap va)) dst m st es fr Q:=jf8 rfl
theorem jy5 {sig:List Bool} {va:Bool} {z:List SV} {okf:Bool} {x k:Od}:WO F (.mk dst (.a (.look sig va z okf x k)) none::l) st fr h Q=zmO F (jd9 st fr h (.look sig va z okf x k)) dst l st fr Q:=jf7 rfl
theorem jy6 {sig:List Bool} {va:Bool} {z:List SV} {okf:Bool} {x k:Od}:WD F ((.mk dst (.a (.look sig va z okf x k)) none,none)::m) st es fr h Q=zmD F (jd9 st fr h (.look sig va z okf x k)) dst m st es fr Q:=jf8 rfl
theorem jy7 {sig:List Bool} {va:Bool} {x k y:Od}:WO F (.mk dst (.a (.mupd sig va x k y)) none::l) st fr h Q=zmO F (jd9 st fr h (.mupd sig va x k y)) dst l st fr Q:=jf7 rfl
theorem jy8 {sig:List Bool} {va:Bool} {x k y:Od}:WD F ((.mk dst (.a (.mupd sig va x k y)) none,none)::m) st es fr h Q=zmD F (jd9 st fr h (.mupd sig va x k y)) dst m st es fr Q:=jf8 rfl
theorem jpg {n size:Nat} {x:Od}:WO F (.mk dst (.a (.slicea n size x)) none::l) st fr h Q=zmO F (jd9 st fr h (.slicea n size x)) dst l st fr Q:=jf7 rfl
theorem jph {n size:Nat} {x:Od}:WD F ((.mk dst (.a (.slicea n size x)) none,none)::m) st es fr h Q=zmD F (jd9 st fr h (.slicea n size x)) dst m st es fr Q:=jf8 rfl
theorem jy9 {size:Nat} {x:Od}:WO F (.mk dst (.a (.boxc size x)) none::l) st fr h Q=zmO F (jd9 st fr h (.boxc size x)) dst l st fr Q:=jf7 rfl
theorem jza {size:Nat} {x:Od}:WD F ((.mk dst (.a (.boxc size x)) none,none)::m) st es fr h Q=zmD F (jd9 st fr h (.boxc size x)) dst m st es fr Q:=jf8 rfl
noncomputable def qtc (o:BO) (x y:Option AV):Option AV:=ob x (fun a=>ob y (fun b=>svc none a (fun a=>svc none b (fun b=>jep o a b))))
theorem j6a {o:BO} {x y:Od}:pop st fr (.bin o x y)=qtc o (ev st fr x) (ev st fr y):=rfl
theorem jpi {o:BO} {a b:SV}:qtc o (some (.s a)) (some (.s b))=jep o a b:=rfl
noncomputable def qq8 (off:Nat) (x:Option AV):Option AV:=ob x (fun v=>jfa v (fun b o=>some (.s (.ptr b (o+off)))) (fun cs=>some (.s (.cp (jb1 off cs)))))
theorem j6b {off:Nat} {x:Od}:pop st fr (.fld off x)=qq8 off (ev st fr x):=rfl
theorem jtm {off b o:Nat}:qq8 off (some (.s (.ptr b o)))=some (.s (.ptr b (o+off))):=rfl
theorem jzb {off:Nat} {cs:List SV}:qq8 off (some (.s (.cp cs)))=some (.s (.cp (jb1 off cs))):=rfl
noncomputable def qf1 (x:Option AV):Option AV:=ob x (fun v=>jfa v (fun b o=>some (.s (.ptr b o))) (fun cs=>some (.s (.cp cs))))
theorem jzc {x:Od}:pop st fr (.nchk x)=qf1 (ev st fr x):=rfl
theorem jpj {b o:Nat}:qf1 (some (.s (.ptr b o)))=some (.s (.ptr b o)):=rfl
theorem jtn {cs:List SV}:qf1 (some (.s (.cp cs)))=some (.s (.cp cs)):=rfl
noncomputable def qtd (x:Option AV):Option AV:=ob x j08
theorem j6c {x:Od}:pop st fr (.len x)=qtd (ev st fr x):=rfl
theorem jpk:qtd (some v)=j08 v:=rfl
noncomputable def qte (size:Nat) (x y:Option AV):Option AV:=ob x (fun v=>ob y (fun w=>jxu size v w))
theorem j6d {size:Nat} {x i:Od}:pop st fr (.ixs size x i)=qte size (ev st fr x) (ev st fr i):=rfl
theorem jpl {size:Nat}:qte size (some v) (some w)=jxu size v w:=rfl
noncomputable def qtf (n size:Nat) (x y:Option AV):Option AV:=ob x (fun v=>ob y (fun w=>qcz n size v w))
theorem j6e {n size:Nat} {x i:Od}:pop st fr (.ixa n size x i)=qtf n size (ev st fr x) (ev st fr i):=rfl
theorem jpm {n size:Nat}:qtf n size (some v) (some w)=qcz n size v w:=rfl
noncomputable def qm9 (x:Option AV) (a b:Od) (st fr:List AV):Option AV:=ob x (fun v=>ji6 v (fun t=>ev st fr (oif t a b)))
theorem jzd {c a b:Od}:pop st fr (.pick c a b)=qm9 (ev st fr c) a b st fr:=rfl
theorem jl4 {t:Bool} {a b:Od}:qm9 (some (.s (.bool t))) a b st fr=if t=true then ev st fr a else ev st fr b:=by cases t<;>rfl
noncomputable def qtg (i:Nat) (x:Option AV):Option AV:=ob x (fun v=>AV.casesOn (motive:=fun _=>Option AV) v (fun _=>none) (fun _=>none) (fun l=>ob (jee l i) (fun p=>jfb p.1 p.2)) none none)
theorem j6f {i:Nat} {x:Od}:pop st fr (.ext i x)=qtg i (ev st fr x):=rfl
noncomputable def mk1 (p:Option (Bool×List SV)):Option AV:=ob p (fun p=>jfb p.1 p.2)
theorem jto {a:Bool} {l:List SV}:mk1 (some (a,l))=jfb a l:=rfl
theorem jtp {i:Nat} {l:List (Bool×List SV)}:qtg i (some (.tup l))=mk1 (jee l i):=rfl
noncomputable def ldR (h:Hp) (agg:Bool) (cs:Option (List SV)):R:=ob cs (fun cs=>ob (jfb agg cs) (fun v=>ok v h))
theorem qf2 {cs:List SV}:ldR h true (some cs)=some (.agg cs,h):=rfl
theorem qf3 {a:SV}:ldR h false (some [a])=some (.s a,h):=rfl
noncomputable def qf4 (h:Hp) (n:Nat) (agg:Bool) (x:Option AV):R:=ob x (fun v=>ob (jmx h n agg v) (fun v=>ok v h))
theorem jze {n:Nat} {agg:Bool} {x:Od}:jd9 st fr h (.load n agg x)=qf4 h n agg (ev st fr x):=j09
theorem jpn {n b o:Nat} {agg:Bool}:qf4 h n agg (some (.s (.ptr b o)))=ldR h agg (rdB (h.get b) o n):=by
 show ob (ob (rdB (h.get b) o n) _) _=_
 rw [qfv];rfl
theorem jtq {n:Nat} {cs:List SV} {agg:Bool}:qf4 h n agg (some (.s (.cp cs)))=ldR h agg (jbw n cs):=by
 show ob (ob (jbw n cs) _) _=_
 rw [qfv];rfl
noncomputable def j6g (h:Hp) (n:Nat) (x y:Option AV):R:=ob x (fun p=>ob y (fun v=>j52 h n p v))
theorem jtr {n:Nat} {x v:Od}:jd9 st fr h (.store n x v)=j6g h n (ev st fr x) (ev st fr v):=rfl
noncomputable def stR (h:Option Hp):R:=ob h (fun h=>ok .undef h)
theorem jts:stR (some h)=some (.undef,h):=rfl
theorem jey {b o:Nat} {x:SV} (k:Ok h):j6g h 1 (some (.s (.ptr b o))) (some (.s x))=stR (wrB h b (h.get b) o [x]):=qa2 k
theorem jc4 {n b o:Nat} {cs:List SV} (k:Ok h) (hn:cs.length=n):j6g h n (some (.s (.ptr b o))) (some (.agg cs))=stR (wrB h b (h.get b) o cs):=j3h k hn
noncomputable def qth (h:Hp) (e:TypeId) (size bytes:Nat) (x y:Option AV):R:=ob x (fun v=>ob y (fun w=>jve h e size bytes v w))
theorem j6h {e:TypeId} {size bytes:Nat} {x y:Od}:jd9 st fr h (.app e size bytes x y)=qth h e size bytes (ev st fr x) (ev st fr y):=rfl
theorem jpo {e:TypeId} {size bytes:Nat}:qth h e size bytes (some v) (some w)=jve h e size bytes v w:=rfl
noncomputable def bsO (h:Hp) (e:TypeId) (size len:Nat) (x:Option (List SV)):R:=ob x (fun cs=>some (.s (.slice h.next 0 len len true size),h.push (.arr cs e)))
theorem jtt {e:TypeId} {size len:Nat} {cs:List SV}:bsO h e size len (some cs)=some (.s (.slice h.next 0 len len true size),h.push (.arr cs e)):=rfl
theorem jdv {e:TypeId} {size:Nat} {z:List SV} {len:Nat} {ps:List (Nat×Nat×Od)} (k:Ok h):jd9 st fr h (.bslice e size z len ps)=bsO h e size len (fill st fr ps z):=j3i k
noncomputable def qq9 (h:Hp) (e:TypeId) (x:Option AV):R:=ob x (fun v=>cel v (fun cs=>some (.s (.ptr h.next 0),h.push (.arr cs e))))
theorem jkj {e:TypeId} {x:Od} (k:Ok h):jd9 st fr h (.box e x)=qq9 h e (ev st fr x):=qfw k
theorem j6i {e:TypeId} {x:SV}:qq9 h e (some (.s x))=some (.s (.ptr h.next 0),h.push (.arr [x] e)):=rfl
theorem jtu {e:TypeId} {cs:List SV}:qq9 h e (some (.agg cs))=some (.s (.ptr h.next 0),h.push (.arr cs e)):=rfl
noncomputable def qti (h:Hp) (e:TypeId) (size bytes:Nat) (z:List SV) (x y:Option AV):R:=ob x (fun v=>ob y (fun u=>qqc h e size bytes z v u))
theorem jl5 {e:TypeId} {size bytes:Nat} {z:List SV} {l c:Od}:jd9 st fr h (.mkslice e size bytes z l c)=qti h e size bytes z (ev st fr l) (ev st fr c):=rfl
theorem jpp {e:TypeId} {size bytes:Nat} {z:List SV}:qti h e size bytes z (some v) (some w)=qqc h e size bytes z v w:=rfl
noncomputable def re1 (h:Hp) (x:Option (Bool×List SV)):R:=ob x (fun p=>ob (jfb p.1 p.2) (fun v=>some (v,h)))
theorem j6j {r:IR}:jcf (.mk fr h) [r]=re1 h (jmw fr h r):=j3j
theorem qf5 {a:SV}:re1 h (some (false,[a]))=some (.s a,h):=rfl
theorem qf6 {l:List SV}:re1 h (some (true,l))=some (.agg l,h):=rfl
noncomputable def reT (g:Option AV):Option (Bool×List SV):=ob g qty
theorem j6k {g:Nat}:jmw fr h (.tmp g)=reT (jee fr g):=rfl
theorem qf7 {x:SV}:reT (some (.s x))=some (false,[x]):=rfl
theorem jzf {x:List SV}:reT (some (.agg x))=some (true,x):=rfl
noncomputable def reC (h:Hp) (n:Nat) (agg:Bool) (g:Option AV):Option (Bool×List SV):=ob g (fun v=>jr1 v (fun b off=>ob (rdB (h.get b) off n) (fun cs=>some (agg,cs))))
theorem jzg {g n:Nat} {agg:Bool}:jmw fr h (.cell g n agg)=reC h n agg (jee fr g):=rfl
noncomputable def reP (agg:Bool) (x:Option (List SV)):Option (Bool×List SV):=ob x (fun cs=>some (agg,cs))
theorem jtv {agg:Bool} {cs:List SV}:reP agg (some cs)=some (agg,cs):=rfl
theorem jzh {n b o:Nat} {agg:Bool}:reC h n agg (some (.s (.ptr b o)))=reP agg (rdB (h.get b) o n):=rfl
def qra (x:R) (Q:AV->Hp->Prop):Prop:=obP x (fun p=>Q p.1 p.2)
theorem jpq {Q:AV->Hp->Prop}:qra (some (v,h)) Q=Q v h:=jcl
theorem jjk {res:List IR} {Q:AV->Hp->Prop}:qcx res Q .normal s=qra (jcf s res) Q:=rfl
theorem jtw {res:List IR} {Q:AV->Hp->Prop}:qcx res Q .ret s=qra (jcf s res) Q:=rfl
noncomputable def re2 (h:Hp) (x:Option (List (Bool×List SV))):R:=ob x (fun vs=>some (.tup vs,h))
theorem jtx {l:List (Bool×List SV)}:re2 h (some l)=some (.tup l,h):=rfl
theorem j6l {r r':IR} {k:List IR}:jcf (.mk fr h) (r::r'::k)=re2 h (jgl fr h (r::r'::k)):=j3k
theorem jcn {size b off len mc sz:Nat} {ex:Bool} (hm:1<len):jxu size (.s (.slice b off len mc ex sz)) (vi 1)=some (.s (.ptr b (off+size))):=by
 have:=jbi (size:=size) (b:=b) (off:=off) (len:=len) (mc:=mc) (sz:=sz) (ex:=ex) hm
 rw [Nat.one_mul] at this;exact this
theorem jdw {n size b off:Nat} (hm:0<n):qcz n size (.s (.ptr b off)) (vi 0)=some (.s (.ptr b off)):=by
 have:=jcu (n:=n) (size:=size) (b:=b) (off:=off) hm
 rw [Nat.zero_mul,Nat.add_zero] at this;exact this
theorem jdx {n size b off:Nat} (hm:1<n):qcz n size (.s (.ptr b off)) (vi 1)=some (.s (.ptr b (off+size))):=by
 have:=jcu (n:=n) (size:=size) (b:=b) (off:=off) hm
 rw [Nat.one_mul] at this;exact this
theorem jez {n size:Nat} {cs:List SV} (hm:0<n):qcz n size (.s (.cp cs)) (vi 0)=some (.s (.cp cs)):=by
 have:=jfi (n:=n) (size:=size) (cs:=cs) hm
 rw [Nat.zero_mul] at this;exact this
theorem je0 {n size:Nat} {cs:List SV} (hm:1<n):qcz n size (.s (.cp cs)) (vi 1)=some (.s (.cp (jb1 size cs))):=by
 have:=jfi (n:=n) (size:=size) (cs:=cs) hm
 rw [Nat.one_mul] at this;exact this
theorem jkk (k:Ok h):h.hid=[]:=k.hid
noncomputable def mkL (agg:Bool) (x:Option (List SV)):Option AV:=ob x (fun cs=>jfb agg cs)
theorem qf8 {cs:List SV}:mkL true (some cs)=some (.agg cs):=rfl
theorem qf9 {a:SV}:mkL false (some [a])=some (.s a):=rfl
theorem j6m {n b o:Nat} {agg:Bool}:jmx h n agg (.s (.ptr b o))=mkL agg (rdB (h.get b) o n):=rfl
theorem qga {n:Nat} {cs:List SV} {agg:Bool}:jmx h n agg (.s (.cp cs))=mkL agg (jbw n cs):=rfl
theorem qgb {a b:Int} (h1:0<=a) (h3:0<b):0<=a % b/\a % b<=a:=by
 have h2:=Int.emod_add_mul_ediv a b
 have h:=Int.ediv_nonneg h1 (Int.le_of_lt h3)
 have h4:=Int.mul_nonneg (Int.le_of_lt h3) h
 exact ⟨Int.emod_nonneg a (by omega),by omega⟩
theorem jfk {a b:Int} (h1:0<=a) (h2:a<=9223372036854775807) (h3:0<b):jep .rem (.int .i64 a) (.int .i64 b)=some (vi (a % b)):=by
 have:=qgb h1 h3
 rw [jys,if_neg (by omega),Int.tmod_eq_emod_of_nonneg h1,jil (by omega) (by omega)]
theorem j6n {a b:Int} (h1:-9223372036854775808<=a) (h2:a<=9223372036854775807) (h3:0<b):-9223372036854775808<=a.tdiv b/\a.tdiv b<=9223372036854775807:=by
 have h:=Int.natAbs_tdiv_le_natAbs a b
 rcases (by omega:a<0∨0<=a) with h4 | h4
 ·have h5:a.tdiv b<=0:=by
   obtain ⟨c,rfl⟩:∃ c,a=-c:=⟨-a,by omega⟩
   rw [Int.neg_tdiv]
   have:=Int.tdiv_nonneg (a:=c) (b:=b) (by omega) (Int.le_of_lt h3)
   omega
  omega
 ·omega
theorem jjl {a b:Int} (h1:-9223372036854775808<=a) (h2:a<=9223372036854775807) (h3:0<b):jep .quo (.int .i64 a) (.int .i64 b)=some (vi (a.tdiv b)):=by
 have:=j6n h1 h2 h3
 rw [qfs,if_neg (by omega),jil this.1 this.2]
theorem jjm {a n:Int} {k:IntKind} (h1:0<=n) (h2:n<=63):jep .shr (.int .i64 a) (.int k n)=some (vi (a / 2 ^ n.toNat)):=by
 obtain ⟨m,rfl⟩:=Int.eq_ofNat_of_zero_le h1
 exact qft (by omega)
theorem je1 {a n:Nat}:(a=a+(n+1))=False:=eq_false (by omega)
theorem je2 {a n:Nat}:(a+(n+1)=a)=False:=eq_false (by omega)
theorem je3 {e:TypeId} {bytes:Nat} {x:SV} (ok:Ok h) (h1:bytes<=1000):qqc h e 1 bytes [x] (vi 2) (vi 2)=some (.s (.slice h.next 0 2 2 true 1),h.push (.arr [x,x] e)) :=
 jyt (m:=2) ok (by omega) (by omega)
theorem jjt {a b:Nat} (h:a≠b):(a=b)=False:=eq_false h
theorem jdn {a b:Nat} (h:b<a):(a<=b)=False:=eq_false (by omega)
theorem jdo {a b:Nat} (h:b<=a):(a<b)=False:=eq_false (by omega)
theorem jju {a b:Nat} (h:a<=b):(a<=b)=True:=eq_true h
theorem jjv {a b:Nat} (h:a<b):(a<b)=True:=eq_true h
theorem qt0 {a b:Int} (h:a<=b):(a<=b)=True:=eq_true h
theorem qt1 {a b:Int} (h:a<b):(a<b)=True:=eq_true h
def qgc (F:Fns) (dst:Option Nat) (m:List (IOper×Option (List Nat))) (st:List AV) (es:List Ent) (fr:List AV) (h:Hp) (Q:Ex->St->Prop) (v:AV) (h':Hp):Prop:=WD F m (v::st) (.mk [(h.next,h'.next)] none::es) (jce fr dst v) (.mk h'.next h'.tr h.lo h.hid) Q
def zkH (F:Fns) (x:Option (List (Nat×Nat))) (vs:Option (List AV)) (f:FuncId) (dst:Option Nat) (m:List (IOper×Option (List Nat))) (st:List AV) (es:List Ent) (fr:List AV) (h:Hp) (Q:Ex->St->Prop):Prop:=obP x (fun hid'=>obP vs (fun vs=>WC F f vs (h.hide h.next hid') (qgc F dst m st es fr h Q)))
theorem jty {x:List (Nat×Nat)} {vs:List AV} {f:FuncId}:zkH F (some x) (some vs) f dst m st es fr h Q=WC F f vs (h.hide h.next x) (qgc F dst m st es fr h Q):=by
 unfold zkH;rw [jcl,jcl]
theorem jl6 {lo:Nat} {x:List (Nat×Nat)}:qgc F dst m st es fr h Q v (h.hide lo x)=WD F m (v::st) (.mk [(h.next,h.next)] none::es) (jce fr dst v) h Q:=by cases h;rfl
theorem jhf {f:FuncId} {as:List Od} {js:List Nat}:WD F ((.mk dst (.a (.call f as)) none,some js)::m) st es fr h Q=zkH F (sel es js h.hid) (evs st fr as) f dst m st es fr h Q:=by
 cases h with
 | mk k t lo hid =>
 rw [jon]
 have key:∀ n v h' e,jxs (jbo F (run F n)) st fr es (.mk k t lo hid) (.a (.call f as)) none (some js)=some (.mk v h' e)↔∃ x vs h1,sel es js hid=some x/\evs st fr as=some vs/\jbo F (run F n) f vs (.mk k t k x)=some (v,h1)/\h'=.mk h1.next h1.tr lo hid/\e=.mk [(k,h1.next)] none:=fun n v h' e=>by
  have e0:jxs (jbo F (run F n)) st fr es (.mk k t lo hid) (.a (.call f as)) none (some js)=ob (sel es js hid) (fun x=>ob (ob (evs st fr as) (fun vs=>jbo F (run F n) f vs (.mk k t k x))) (fun p=>Hp.casesOn (motive:=fun _=>Option DR) p.2 (fun n' t' _ _=>some (.mk p.1 (.mk n' t' lo hid) (.mk [(k,n')] none))))):=rfl
  rw [e0]
  constructor
  ·intro h1
   obtain ⟨x,hx,h2⟩:=jab.1 h1
   obtain ⟨p,hp,h3⟩:=jab.1 h2
   obtain ⟨vs,hvs,h4⟩:=jab.1 hp
   obtain ⟨v1,⟨n1,t1,l1,d1⟩⟩:=p
   cases h3
   exact ⟨x,vs,_,hx,hvs,h4,rfl,rfl⟩
  ·rintro ⟨x,vs,⟨n1,t1,l1,d1⟩,hx,hvs,h4,rfl,rfl⟩
   exact jab.2 ⟨x,hx,jab.2 ⟨(v,.mk n1 t1 l1 d1),jab.2 ⟨vs,hvs,h4⟩,rfl⟩⟩
 refine propext ⟨fun ⟨n,v,h',e,h1,h2⟩=>?_,fun ⟨x,hx,vs,hvs,n,v,h1,h2,h3⟩=>⟨n,v,_,_,(key n v _ _).2 ⟨x,vs,h1,hx,hvs,h2,rfl,rfl⟩,h3⟩⟩
 obtain ⟨x,vs,h3,hx,hvs,h4,rfl,rfl⟩:=(key n v h' e).1 h1
 exact ⟨x,hx,vs,hvs,n,v,h3,h4,h2⟩
theorem jdf {a:Nat} {n:Nat}:((a:Int) / 2 ^ n)=((a / 2 ^ n:Nat):Int):=by
 rw [Int.natCast_ediv,Int.natCast_pow];rfl
theorem jdg {i:Nat}:(4+(i:Int)).toNat=4+i:=by omega
theorem jdh {i:Nat}:(9+(i:Int)).toNat=9+i:=by omega
theorem jdi {i:Nat}:(i:Int).toNat=i:=by omega
theorem jjn {a:Nat}:decide ((a:Int) % 2=1)=decide (a % 2=1):=decide_eq_decide.2 (by omega)
theorem jfl {a:Nat}:(a:Int).tdiv 4=((a / 4:Nat):Int):=rfl
theorem jfm {a:Nat}:(a:Int).tdiv 5=((a / 5:Nat):Int):=rfl
theorem jgy {x:Option AB} {off sz j:Nat} {row:List SV} {c:SV} (hr:rdB x off sz=some row) (hj:row[j]?=some c):rdB x (off+j) 1=some [c]:=by
 cases x with
 | none=>cases hr
 | some x =>
  cases x with
  | map va es=>cases hr
  | arr cs ty =>
   rw [jgg,jbv] at hr ⊢
   obtain ⟨h1,rfl⟩:=(jbd _).1 hr
   have hjs:j<sz:=by
    rcases Nat.lt_or_ge j sz with h | h
    ·exact h
    ·rw [List.getElem?_eq_none (by simp;omega)] at hj;cases hj
   have hj2:cs[off+j]?=some c:=by
    rw [List.getElem?_take,if_pos hjs,List.getElem?_drop] at hj;exact hj
   have hl:off+j<cs.length:=by
    rcases Nat.lt_or_ge (off+j) cs.length with h | h
    ·exact h
    ·rw [List.getElem?_eq_none h] at hj2;cases hj2
   refine (jbd _).2 ⟨by simp;omega,?_⟩
   have e:cs.drop (off+j)=c::cs.drop (off+j+1):=by
    rw [List.drop_eq_getElem_cons hl]
    rw [List.getElem?_eq_getElem hl] at hj2
    rw [Option.some.inj hj2]
   rw [e];rfl
noncomputable def mmV (mx:Bool) (x y:Option AV):Option AV:=ob x (fun a=>ob y (fun b=>jm3 a (fun k m=>jm3 b (fun k' n=>oif (Nat.beq (ikn k) (ikn k')) (some (.s (.int k (oif (ile m n) (oif mx n m) (oif mx m n))))) none))))
theorem qgd {mx:Bool} {x y:Od}:pop st fr (.mm mx x y)=mmV mx (ev st fr x) (ev st fr y):=rfl
theorem jzi {a b:Int}:mmV false (some (.s (.int .i64 a))) (some (.s (.int .i64 b)))=some (vi (if a<=b then a else b)):=by
 show some (AV.s (.int .i64 (oif (ile a b) a b)))=_
 rw [jav,jdr];simp only [decide_eq_true_eq]
theorem jzj {a b:Int}:mmV true (some (.s (.int .i64 a))) (some (.s (.int .i64 b)))=some (vi (if a<=b then b else a)):=by
 show some (AV.s (.int .i64 (oif (ile a b) b a)))=_
 rw [jav,jdr];simp only [decide_eq_true_eq]
end
attribute [go_sem] jhf jty jl6 j5k qfl j5l qav jyh jyw js8 jso j5m j5n jyx js3 jyy js6 js5 js9 js7 jo8 js4 j5p jyz jta jtb jy0 jtd jtc jtf jte jo9 jh8 jpa jh9 jpb jgh jpd jpc jf6 jln joj jje jok jsn jh4 jlp jol j54 j56 jpe jl2 jy1 jtg j58 jy3 jti jtk jy5 jy7 jpg jy9 j55 j57 jpf jl3 jy2 jth j59 jy4 jtj jtl jy6 jy8 jph jza qq1 qq2 qq3 jyi jsp jor jos jot jou jov jow jjg jjh qq4 qq5 jbg qfq jox jsq jlr jsr jls qfr jyj j5r j5s j5t jss jlt jlu jlv jlw joy jst joz jo0 jlx jh6 jdl jo1 jyk jyl qgd jzi jzj j5u jzd jl4 jo2 jsu jo3 j6a jpi jym jyn j6b jtm jzb jsv j6f jtp jto jzc jpj jtn jsw jki jsx jo4 jly jji jo5 jsy jsz j6c jpk js0 jhc jlz jo6 jyp jyq jyr jjl jfk jjm j5w j5x j5y j5z j50 j51 j6d jpl j6e jpm j6j qf5 qf6 j6k qf7 jzf jzg jtv jzh jpq jjk jtw jl0 jfj jl1 j6l jtx qfy jgg jo7 jze jpn jtq qf2 qf3 jtr jts jl5 jpp j6h jpo jtt j6i jtu jyv j53 jyu js2 jaa jjj j6m qga qf8 qf9 je1 je2 jcn jcu jfi jdw jdx jez je0 jkk jex jdv jkj jhe jey jc4 jaw jal je3 jcm jbi
end Go.Proofs.Ytaljcpoopmedmaa.Ev
