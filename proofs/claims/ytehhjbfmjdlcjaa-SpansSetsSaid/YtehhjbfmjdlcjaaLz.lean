/- Open runs: what operations answer at values that are known in part. No program in sight. -/
import Derived.Test.YtehhjbfmjdlcjaaOp
namespace Go.Proofs.Ytehhjbfmjdlcjaa.Ev
noncomputable section
open Go Go.RowKit
set_option linter.all false
variable {t agg ex':Bool} {rows:List (List SV)} {vs:List AV} {js:List Nat} {z xs row:List SV} {g i j o b' lo o' mc' sz' bytes:Nat} {u:SV}
abbrev vi (n:Int):AV:=.s (.int .i64 n)
abbrev vb (b:Bool):AV:=.s (.bool b)
abbrev si (n:Int):SV:=.int .i64 n
section
variable {st fr:List AV} {h:Hp} {α β:Type}
theorem qvv:ev st fr (.l i)=jef st i:=rfl
theorem qvw:ev st fr (.g i)=jef fr i:=rfl
theorem qvx {v:AV}:ev st fr (.c v)=some v:=rfl
theorem jzm:evs st fr []=some []:=rfl
theorem js7 {o:Od} {l:List Od}:evs st fr (o::l)=ob (ev st fr o) (fun v=>ob (evs st fr l) (fun r=>some (v::r))):=rfl
theorem jot {a:α} {l:List α}:jef (a::l) 0=some a:=rfl
theorem jou {a:α} {l:List α} {n:Nat}:jef (a::l) (n+1)=jef l n:=rfl
theorem jov {a x:α} {l:List α}:jqm (a::l) 0 x=x::l:=rfl
theorem jow {a x:α} {l:List α} {n:Nat}:jqm (a::l) (n+1) x=a::jqm l n x:=rfl
theorem jox {v:AV}:jcy fr none v=fr:=rfl
theorem joy {d:Nat} {v:AV}:jcy fr (some d) v=jqm fr d v:=rfl
theorem jiw:jda 0=[]:=rfl
theorem jix {n:Nat}:jda (n+1)=.undef::jda n:=rfl
theorem qvy {a:α} {f:α->Option β}:ob (some a) f=f a:=rfl
theorem qvz {f:α->Option β}:ob none f=none:=rfl
theorem jbg {b:Bool} {x y:α}:oif b x y=if b=true then x else y:=by cases b<;>rfl
theorem qji {e:Option β} {x:SV} {f:SV->Option β}:svc e (.s x) f=f x:=rfl
theorem joz {e:Option β} {f:SV->Option β}:svc e .undef f=e:=rfl
theorem js8 {k:IntKind} {n:Int} {f:IntKind->Int->Option β}:qib (.int k n) f=f k n:=rfl
theorem jls {b:Bool} {f:Bool->Option β}:jqn (.bool b) f=f b:=rfl
theorem js9 {k:IntKind} {n:Int} {f:IntKind->Int->Option β}:jmy (.s (.int k n)) f=f k n:=rfl
theorem jlt {b:Bool} {f:Bool->Option β}:jio (.s (.bool b)) f=f b:=rfl
theorem qjj {x:SV} {f:List SV->Option β}:cel (.s x) f=f [x]:=rfl
theorem jzn {l:List SV} {f:List SV->Option β}:cel (.agg l) f=f l:=rfl
theorem j7l {a:SV}:jf6 false [a]=some (.s a):=rfl
theorem j7m {l:List SV}:jf6 true l=some (.agg l):=rfl
theorem j7n {x:SV} {f:List SV->Option β}:qc0 false (.s x) f=f [x]:=rfl
theorem jta {l:List SV} {f:List SV->Option β}:qc0 true (.agg l) f=f l:=rfl
theorem jlu {l:List α}:jb4 0 l=some []:=rfl
theorem jlv {a:α} {l:List α} {n:Nat}:jb4 (n+1) (a::l)=ob (jb4 n l) (fun x=>some (a::x)):=rfl
theorem jh3 {l:List α}:jci 0 l=l:=rfl
theorem jlw {a:α} {l:List α} {n:Nat}:jci (n+1) (a::l)=jci n l:=rfl
theorem jo0 {n:Nat}:jci n ([]:List α)=[]:=by cases n<;>rfl
theorem jtb:jd1 ([]:List α)=0:=rfl
theorem jo1 {a:α} {l:List α}:jd1 (a::l)=jd1 l+1:=rfl
theorem jo2 {l:List α}:jnn [] l=some l:=rfl
theorem jlx {x a:α} {xs l:List α}:jnn (x::xs) (a::l)=ob (jnn xs l) (fun y=>some (x::y)):=rfl
theorem jhk {xs l:List α}:jbk 0 xs l=jnn xs l:=rfl
theorem jdm {a:α} {xs l:List α} {n:Nat}:jbk (n+1) xs (a::l)=ob (jbk n xs l) (fun y=>some (a::y)):=rfl
theorem jo3 {a:Nat}:Nat.beq a a=true:=f13 a
theorem jzo {a b:Nat}:(Nat.beq a b=true)=(a=b):=jg4 a b
theorem jzp {a b:Nat}:(Nat.ble a b=true)=(a<=b):=jqp a b
theorem j7o {x:Od}:pop st fr (.mv x)=ev st fr x:=rfl
theorem jo4 {ps:List (Nat×Nat×Od)}:pop st fr (.build z ps)=ob (fill st fr ps z) (fun cs=>some (.agg cs)):=rfl
theorem jtc {cs:List SV}:fill st fr [] cs=some cs:=rfl
theorem jo5 {off n:Nat} {o:Od} {ps:List (Nat×Nat×Od)} {cs:List SV}:fill st fr ((off,n,o)::ps) cs=ob (ev st fr o) (fun v=>cel v (fun xs=>oif (Nat.beq (jd1 xs) n) (ob (jbk off xs cs) (fill st fr ps)) none)):=rfl
theorem jzq {x:Od}:pop st fr (.not x)=ob (ev st fr x) (fun v=>jio v (fun b=>some (.s (.bool (!b))))):=by
 show ob (ev st fr x) (fun v=>jio v (fun b=>some (AV.s (.bool (ji9 b)))))=_
 congr 1;funext v;congr 1;funext b;cases b<;>rfl
theorem jzr {x:Od}:pop st fr (.neg x)=ob (ev st fr x) (fun v=>jmy v (fun k n=>j4e k (-n))):=rfl
theorem jtd {off n:Nat} {x:Od}:pop st fr (.fval off n agg x)=none:=rfl
theorem jte {k:IntKind} {x:Od}:pop st fr (.conv k x)=ob (ev st fr x) (fun v=>jmy v (fun _ n=>qcz k n)):=rfl
theorem jj0 {f:FuncId} {cs:List Od}:pop st fr (.mkfun f cs)=ob (evs st fr cs) (fun vs=>ob (qfo vs) (fun ps=>some (.s (.func f ps)))):=rfl
theorem jtf:qfo []=some []:=rfl
theorem jo6 {b:Nat} {l:List AV}:qfo (.s (.ptr b o)::l)=ob (qfo l) (fun r=>some ((b,o)::r)):=rfl
theorem jly:jf7 []=[]:=rfl
theorem jiy {b:Nat} {l:List (Nat×Nat)}:jf7 ((b,o)::l)=.s (.ptr b o)::jf7 l:=rfl
theorem jo7 {b:Nat} {f:Nat->Nat->Option β} {g:List SV->Option β}:jew (.s (.ptr b o)) f g=f b o:=rfl
theorem jtg {cs:List SV} {f:Nat->Nat->Option β} {g:List SV->Option β}:jew (.s (.cp cs)) f g=g cs:=rfl
theorem jth {b:Nat} {f:Nat->Nat->Option β}:jv3 (.s (.ptr b o)) f=f b o:=rfl
def jyv (v:AV):Option AV:=jcp v (some (.s (.int .i64 0))) (fun _ _ n _ _ _=>some (.s (.int .i64 (Int.ofNat n)))) (fun rows=>some (.s (.int .i64 (Int.ofNat (jd1 rows))))) (some (.s (.int .i64 0)))
theorem jti:jyv (.s .nilSlice)=some (vi 0):=rfl
theorem jj1:jyv (.s (.lst rows))=some (vi rows.length):=by
 show some (AV.s (.int .i64 (Int.ofNat (jd1 rows))))=_
 rw[jbt];rfl
theorem jlz {b n mc sz:Nat} {e:Bool}:jyv (.s (.slice b o n mc e sz))=some (vi n):=rfl
def j7p (n:Int):Option AV:=if -9223372036854775808<=n/\n<=9223372036854775807 then some (vi n) else none
theorem qdz {n:Int} (h1:-9223372036854775808<=n) (h2:n<=9223372036854775807):inR .i64 n=true:=by
 cases n with
 | ofNat m=>exact(jqp m 9223372036854775807).symm▸(by have:(m:Int)<=9223372036854775807:=h2
                                                      omega)
 | negSucc m=>exact(jqp m 9223372036854775807).symm▸(by have:-9223372036854775808<=Int.negSucc m:=h1
                                                        omega)
theorem jo8 {n:Int}:j4e .i64 n=j7p n:=by
 unfold j7p
 show oif (inR .i64 n) (some (AV.s (.int .i64 n))) none=_
 split
 .rename_i h;rw[qdz h.1 h.2];rfl
 .rename_i h
  cases e:inR .i64 n with
  | false=>rfl
  | true =>
   rcases jer e with⟨_,a,b⟩ | ⟨e,_⟩ | ⟨e,_⟩
   .exact absurd ⟨a,b⟩ h
   .cases e
   .cases e
theorem jh4 {n:Int} (h1:-9223372036854775808<=n) (h2:n<=9223372036854775807):j7p n=some (vi n):=if_pos ⟨h1,h2⟩
def w64 (n:Int):Int:=IntKind.wrap .i64 n
theorem jab {n:Int} (h1:-9223372036854775808<=n) (h2:n<=9223372036854775807):w64 n=n:=jjh (qdz h1 h2)
theorem jzs {n:Int}:qcx .i64 n=some (vi (w64 n)):=by
 show oif (inR .i64 n) (some (AV.s (.int .i64 n))) (some (AV.s (.int .i64 (IntKind.wrap .i64 n))))=_
 cases e:inR .i64 n with
 | true=>rw[show w64 n=n from jjh e];rfl
 | false=>rfl
variable {a b:Int}
theorem jzt:jcx .add (.int .i64 a) (.int .i64 b)=some (vi (w64 (a+b))):=by
 rw[←jzs];show qcx .i64 (qpz a b)=_;rw[j6b]
theorem jzu:jcx .sub (.int .i64 a) (.int .i64 b)=some (vi (w64 (a - b))):=by rw[←jzs];rfl
theorem jzv:jcx .mul (.int .i64 a) (.int .i64 b)=some (vi (w64 (a*b))):=by rw[←jzs];rfl
theorem qjk:jcx .quo (.int .i64 a) (.int .i64 b)=if b=0 then none else j7p (a.tdiv b):=by
 rw[←jo8]
 show oif (ieq b 0) none (j4e .i64 (a.tdiv b))=_
 rw[jax,jcq];simp only[decide_eq_true_eq]
theorem jzw:jcx .rem (.int .i64 a) (.int .i64 b)=if b=0 then none else j7p (a.tmod b):=by
 rw[←jo8]
 show oif (ieq b 0) none (j4e .i64 (a.tmod b))=_
 rw[jax,jcq];simp only[decide_eq_true_eq]
theorem j7q:jcx .eq (.int .i64 a) (.int .i64 b)=some (vb (decide (a=b))):=by
 show some (AV.s (.bool (ieq a b)))=_;rw[jcq]
theorem j7r:jcx .ne (.int .i64 a) (.int .i64 b)=some (vb (decide (a≠b))):=by
 show some (AV.s (.bool (ji9 (ieq a b))))=_;rw[jcq,jgr];congr 3;by_cases h:a=b<;>simp[h]
theorem j7s:jcx .lt (.int .i64 a) (.int .i64 b)=some (vb (decide (a<b))):=by
 show some (AV.s (.bool (ji9 (ile b a))))=_;rw[jeh,jgr];congr 3;by_cases h:a<b<;>simp[h]
 omega
theorem j7t:jcx .le (.int .i64 a) (.int .i64 b)=some (vb (decide (a<=b))):=by
 show some (AV.s (.bool (ile a b)))=_;rw[jeh]
theorem j7u:jcx .gt (.int .i64 a) (.int .i64 b)=some (vb (decide (b<a))):=by
 show some (AV.s (.bool (ji9 (ile a b))))=_;rw[jeh,jgr];congr 3;by_cases h:b<a<;>simp[h]
 omega
theorem j7v:jcx .ge (.int .i64 a) (.int .i64 b)=some (vb (decide (b<=a))):=by
 show some (AV.s (.bool (ile b a)))=_;rw[jeh]
theorem qjl {n:Nat} {k:IntKind} (hn:n<=63):jcx .shr (.int .i64 a) (.int k (n:Int))=some (vi (a / 2 ^ n)):=by
 have hs:jyx .i64 n=true:=by
  have hI:jno .i64=true:=rfl
  unfold jyx
  simp[jax,jqp,hn,hI]
 have e:jcx .shr (.int .i64 a) (.int k (n:Int))=jv8 .shr .i64 a (n:Int):=by
  show oif (Nat.beq (ikn .i64) (ikn k)) (jv8 .shr .i64 a n) (oif true (jv8 .shr .i64 a n) none)=_
  cases Nat.beq (ikn .i64) (ikn k)<;>rfl
 rw[e]
 cases a with
 | ofNat m =>
  show oif (jyx .i64 n) (some (AV.s (.int .i64 (Int.ofNat (Nat.div m (Nat.pow 2 n)))))) none=_
  rw[hs]
  have:Int.ofNat (Nat.div m (Nat.pow 2 n))=Int.ofNat m / 2 ^ n:=by
   show((m / 2 ^ n:Nat):Int)=(m:Int) / 2 ^ n
   rw[Int.natCast_ediv,f3p];rfl
  rw[this];rfl
 | negSucc m =>
  show oif (jyx .i64 n) (some (AV.s (.int .i64 (Int.negSucc (Nat.div m (Nat.pow 2 n)))))) none=_
  rw[hs]
  have:Int.negSucc (Nat.div m (Nat.pow 2 n))=Int.negSucc m / 2 ^ n:=by
   obtain⟨q,hq⟩:∃ q,2 ^ n=q+1:=⟨2 ^ n - 1,by have:=Nat.two_pow_pos n;omega⟩
   have h2:(2:Int) ^ n=((q+1:Nat):Int):=by rw[←hq,f3p];rfl
   have h3:Nat.pow 2 n=q+1:=hq
   rw[h2,h3];rfl
  rw[this];rfl
theorem jgt (h1:-9223372036854775808<=a) (h2:a<=9223372036854775807):jcx .and (.int .i64 a) (.int .i64 1)=some (vi (a % 2)):=by
 have hr:=qdz h1 h2
 cases a with
 | ofNat m =>
  show oif (inR .i64 (.ofNat m)) (some (AV.s (.int .i64 (.ofNat (Nat.land m 1))))) none=_
  rw[hr]
  have:Int.ofNat (Nat.land m 1)=Int.ofNat m % 2:=by
   rw[show Nat.land m 1=m % 2 from f17 m];rfl
  rw[this];rfl
 | negSucc m =>
  show oif (inR .i64 (.negSucc m)) (some (AV.s (.int .i64 (.ofNat (Nat.xor 1 (Nat.land 1 m)))))) none=_
  rw[hr]
  have:Int.ofNat (Nat.xor 1 (Nat.land 1 m))=Int.negSucc m % 2:=by
   have e:Nat.land 1 m=m % 2:=(Nat.and_comm 1 m).trans (f17 m)
   rw[e]
   rcases Nat.mod_two_eq_zero_or_one m with h | h
   .rw [h];show(1:Int)=_;omega
   .rw [h];show(0:Int)=_;omega
  rw[this];rfl
theorem qjm (h1:-9223372036854775808<=a) (h2:a<=9223372036854775807):jcx .or (.int .i64 a) (.int .i64 1)=some (vi (a+(1 - a % 2))):=by
 have hr:=qdz h1 h2
 cases a with
 | ofNat m =>
  show oif (inR .i64 (.ofNat m)) (some (AV.s (.int .i64 (.ofNat (Nat.lor m 1))))) none=_
  rw[hr]
  have:Int.ofNat (Nat.lor m 1)=Int.ofNat m+(1 - Int.ofNat m % 2):=by
   have e:m ||| 1=m+(1 - m % 2):=by
    have h1:(m ||| 1) / 2=m / 2:=by rw[Nat.or_div_two];simp
    have h2:(m ||| 1) % 2=1:=by rw[Nat.or_mod_two_eq_one];simp
    omega
   show((m ||| 1:Nat):Int)=(m:Int)+(1 - (m:Int) % 2)
   rw[e];omega
  rw[this];rfl
 | negSucc m =>
  show oif (inR .i64 (.negSucc m)) (some (AV.s (.int .i64 (.negSucc (Nat.xor m (Nat.land m 1)))))) none=_
  rw[hr]
  have:Int.negSucc (Nat.xor m (Nat.land m 1))=Int.negSucc m+(1 - Int.negSucc m % 2):=by
   have e:m ^^^ (m &&& 1)=m - m % 2:=by
    have h1:(m ^^^ (m &&& 1)) / 2=m / 2:=by rw[Nat.xor_div_two,Nat.and_div_two];simp
    have h2:¬ (m ^^^ (m &&& 1)) % 2=1:=by
     have e:m &&& 1=m % 2:=f17 m
     rw[e,Nat.xor_mod_two_eq_one];omega
    omega
   show Int.negSucc (m ^^^ (m &&& 1))=_
   rw[e];omega
  rw[this];rfl
end
class Ok (h:Hp):Prop where
 hid:h.hid=[]
 lo:h.lo=0
 pos:1<=h.next
theorem jh5 {a b:Nat} (h:a<=b):Nat.ble a b=true:=by rw[jqp];exact h
theorem jdo:Ok h0:=⟨rfl,rfl,f0f 1⟩
section
variable {h:Hp} {F:Fns} {st fr:List AV} {Q:Ex->St->Prop} {β:Type}
theorem jav {x:AB} (k:Ok h):Ok (h.push x):=⟨k.hid,k.lo,f2p k.pos⟩
theorem jap {b:Nat} {x:Option AB} (k:Ok h):Ok (h.put b x):=⟨by rw[Hp.hid_put];exact k.hid,by rw[Hp.lo_put];exact k.lo,by rw[Hp.next_put];exact k.pos⟩
instance iPush {x:AB} [k:Ok h]:Ok (h.push x):=jav k
instance iPut {b:Nat} {x:Option AB} [k:Ok h]:Ok (h.put b x):=jap k
theorem jau {x:AB} {n:Nat} (k:Ok h):(h.push x).get n=if n=h.next then some x else h.get n:=by
 rw[Hp.get_eq,Hp.get_eq,Hp.hid_push,k.hid]
 have e:jas [] n=false:=rfl
 rw[e]
 show(h.tr.put (Nat.succ h.next) h.next (some x)).get n=_
 split
 .rename_i hn;subst hn;exact jbr _ _ _ _ k.pos (jmd _)
 .rename_i hn;exact jbx _ _ _ _ n k.pos (jmd _) hn
theorem jaj {b n:Nat} {x:Option AB} (k:Ok h) (hb:1<=b):(h.put b x).get n=if n=b then x else h.get n:=by
 rw[Hp.get_eq,Hp.get_eq,Hp.hid_put,k.hid,Hp.tr_put]
 have e:jas [] n=false:=rfl
 rw[e]
 show(h.tr.put (Nat.succ b) b x).get n=_
 split
 .rename_i hn;subst hn;exact jbr _ _ _ _ hb (jmd _)
 .rename_i hn;exact jbx _ _ _ _ n hb (jmd _) hn
def Hp.hide (h:Hp) (lo:Nat) (hid:List (Nat×Nat)):Hp:=.mk h.next h.tr lo hid
theorem jl0 {n:Nat}:jas [] n=false:=by cases n<;>rfl
theorem jiz {a b n:Nat} {l:List (Nat×Nat)}:jas ((a,b)::l) n=if a<=n/\n<b then true else jas l n:=by
 show oif (Nat.ble a n) (oif (Nat.ble (n+1) b) true (jas l n)) (jas l n)=_
 simp only[jax,jqp]
 by_cases h1:a<=n
 .by_cases h2:n+1<=b
  .rw [if_pos h1,if_pos h2,if_pos ⟨h1,h2⟩]
  .rw [if_pos h1,if_neg h2,if_neg (fun h=>h2 h.2)]
 .rw [if_neg h1,if_neg (fun h=>h1 h.1)]
theorem qd0 {n:Nat} {hid:List (Nat×Nat)} (k:Ok h):(h.hide lo hid).get n=if jas hid n=true then none else h.get n:=by
 rw[Hp.get_eq,Hp.get_eq,k.hid];rfl
theorem jw5 {cs:List SV} {ty:TypeId} {f:Nat->Hp->Option β} (k:Ok h):nw h cs ty f=f h.next (h.push (.arr cs ty)):=by
 cases h with
 | mk n t lo hid =>
  obtain rfl:hid=[]:=k.hid
  rfl
def rdB (x:Option AB) (off n:Nat):Option (List SV):=ob x (fun x=>AB.casesOn (motive:=fun _=>Option (List SV)) x (fun cs _=>jb4 n (jci off cs)) (fun _ _=>none))
theorem je2 {cs:List SV} {ty:TypeId} {off n:Nat}:rdB (some (.arr cs ty)) off n=jb4 n (jci off cs):=rfl
def wrB (h:Hp) (b:Nat) (x:Option AB) (off:Nat) (xs:List SV):Option Hp:=ob x (fun x=>AB.casesOn (motive:=fun _=>Option Hp) x (fun cs ty=>ob (jbk off xs cs) (fun cs'=>some (h.put b (some (.arr cs' ty))))) (fun _ _=>none))
theorem qrc {b off:Nat} (k:Ok h):wr h b off xs=wrB h b (h.get b) off xs:=by
 show oif (Nat.ble h.lo b) _ none=_
 rw[k.lo];rfl
theorem jo9 {b:Nat} {cs:List SV} {ty:TypeId} {off:Nat}:wrB h b (some (.arr cs ty)) off xs=ob (jbk off xs cs) (fun cs'=>some (h.put b (some (.arr cs' ty)))):=rfl
def jmv (h:Hp) (n:Nat) (agg:Bool) (v:AV):Option AV:=jew v (fun b off=>ob (rd h b off n) (fun cs=>jf6 agg cs)) (fun cs=>ob (jb4 n cs) (fun cs=>jf6 agg cs))
theorem qjn {α γ:Type} {x:Option α} {f:α->Option β} {g:β->Option γ}:ob (ob x f) g=ob x (fun a=>ob (f a) g):=by cases x<;>rfl
theorem j2e {n:Nat} {x:Od}:jfg st fr h (.load n agg x)=ob (ev st fr x) (fun v=>ob (jmv h n agg v) (fun v=>ok v h)):=by
 show ob (ev st fr x) (fun v=>jew v (fun b off=>ob (rd h b off n) (fun cs=>ob (jf6 agg cs) (fun v=>ok v h))) (fun cs=>ob (jb4 n cs) (fun cs=>ob (jf6 agg cs) (fun v=>ok v h))))=_
 congr 1
 funext v
 cases v with
 | s v=>cases v<;>first | rfl | (show ob _ _=ob (ob _ _) _;rw[qjn])
 | _=>rfl
def j7w (h:Hp) (n:Nat) (p v:AV):R:=jv3 p (fun b off=>cel v (fun cs=>oif (Nat.beq (jd1 cs) n) (ob (wr h b off cs) (fun h=>ok .undef h)) none))
theorem qd1 {b:Nat} {v:SV} (k:Ok h):j7w h 1 (.s (.ptr b o)) (.s v)=ob (wrB h b (h.get b) o [v]) (fun h=>ok .undef h):=by
 show ob (wr h b o [v]) _=_
 rw[qrc k]
theorem j5b {n b:Nat} {cs:List SV} (k:Ok h) (hn:cs.length=n):j7w h n (.s (.ptr b o)) (.agg cs)=ob (wrB h b (h.get b) o cs) (fun h=>ok .undef h):=by
 show oif (Nat.beq (jd1 cs) n) (ob (wr h b o cs) _) none=_
 rw[qrc k,jbt,hn,f13];rfl
theorem qjo {e:TypeId} (k:Ok h):jfg st fr h (.new e z)=some (.s (.ptr h.next 0),h.push (.arr z e)):=by
 show nw h z e (fun n h=>ok (.s (.ptr n 0)) h)=_
 rw[jw5 k];rfl
theorem qjp {e:TypeId} {x:Od} (k:Ok h):jfg st fr h (.box e x)=ob (ev st fr x) (fun v=>cel v (fun cs=>some (.s (.ptr h.next 0),h.push (.arr cs e)))):=by
 show ob (ev st fr x) (fun v=>cel v (fun cs=>nw h cs e (fun n h=>ok (.s (.ptr n 0)) h)))=_
 congr 1;funext v;congr 1;funext cs;rw[jw5 k];rfl
theorem j5c {e:TypeId} {size:Nat} {len:Nat} {ps:List (Nat×Nat×Od)} (k:Ok h):jfg st fr h (.bslice e size z len ps)=ob (fill st fr ps z) (fun cs=>some (.s (.slice h.next 0 len len true size),h.push (.arr cs e))):=by
 show ob (fill st fr ps z) (fun cs=>nw h cs e (fun n h=>ok (.s (.slice n 0 len len true size)) h))=_
 congr 1;funext cs;rw[jw5 k];rfl
def qrd (h:Hp) (e:TypeId) (size bytes:Nat) (z:List SV) (l c:AV):R:=qfq l (fun m=>qfq c (fun k=>oif (Nat.ble m k) (oif (Nat.ble (Nat.mul bytes k) 1000000000) (oif (Nat.ble k 1000000000) (nw h (rep z k) e (fun b h=>ok (.s (.slice b 0 m k true size)) h)) none) none) none))
theorem jpa {e:TypeId} {size:Nat} {m:Nat} (k:Ok h) (h1:bytes*m<=1000000000) (h2:m<=1000000000):qrd h e size bytes z (vi m) (vi m)=some (.s (.slice h.next 0 m m true size),h.push (.arr (rep z m) e)):=by
 show oif (Nat.ble m m) (oif (Nat.ble (Nat.mul bytes m) 1000000000) (oif (Nat.ble m 1000000000) (nw h (rep z m) e _) none) none) none=_
 rw[jw5 k,jh5 (f0f m),jh5 h2,show Nat.ble (Nat.mul bytes m) 1000000000=true from jh5 h1];rfl
def jyw (size:Nat) (v w:AV):Option AV:=jcp v none (fun b off len _ _ _=>jk3 w len (fun m=>some (.s (.ptr b (Nat.add off (Nat.mul m size))))))
 (fun rows=>jk3 w (jd1 rows) (fun m=>ob (jef rows m) (fun row=>oif (Nat.beq (jd1 row) size) (some (.s (.cp row))) none))) none
theorem jhl {m n:Nat} {f:Nat->Option β} (hm:m<n):jk3 (vi (m:Int)) n f=f m:=by
 show oif (Nat.ble (Nat.succ m) n) (f m) none=_
 rw[jh5 (show Nat.succ m<=n from hm)];rfl
theorem jbd {size b off len mc sz m:Nat} {ex:Bool} (hm:m<len):jyw size (.s (.slice b off len mc ex sz)) (vi (m:Int))=some (.s (.ptr b (off+m*size))):=jhl (f:=fun m=>some (AV.s (.ptr b (Nat.add off (Nat.mul m size))))) hm
theorem jcf {size b off len mc sz:Nat} {ex:Bool} (hm:0<len):jyw size (.s (.slice b off len mc ex sz)) (vi 0)=some (.s (.ptr b off)):=by
 have:=jhl (f:=fun m=>some (AV.s (.ptr b (Nat.add off (Nat.mul m size))))) hm
 refine this.trans ?_
 show some (AV.s (.ptr b (off+0*size)))=_
 rw[f2u,f1l]
theorem j2f {size m:Nat} (hr:rows[m]?=some row) (hl:row.length=size):jyw size (.s (.lst rows)) (vi (m:Int))=some (.s (.cp row)):=by
 have hm:m<rows.length:=by
  rcases f0i m rows.length with h | h
  .exact h
  .rw [f0j h] at hr;cases hr
 have:=jhl (f:=fun m=>ob (jef rows m) (fun row=>oif (Nat.beq (jd1 row) size) (some (AV.s (.cp row))) none)) (show m<jd1 rows by rw[jbt];exact hm)
 refine this.trans ?_
 rw[jca,hr]
 show oif (Nat.beq (jd1 row) size) _ none=_
 rw[jbt,hl,f13];rfl
def qf0 (n size:Nat) (v w:AV):Option AV:=jew v (fun b off=>jk3 w n (fun m=>some (.s (.ptr b (Nat.add off (Nat.mul m size)))))) (fun cs=>jk3 w n (fun m=>some (.s (.cp (jci (Nat.mul m size) cs)))))
theorem jcu {n size b off m:Nat} (hm:m<n):qf0 n size (.s (.ptr b off)) (vi (m:Int))=some (.s (.ptr b (off+m*size))):=jhl (f:=fun m=>some (AV.s (.ptr b (Nat.add off (Nat.mul m size))))) hm
theorem je3 {n size m:Nat} {cs:List SV} (hm:m<n):qf0 n size (.s (.cp cs)) (vi (m:Int))=some (.s (.cp (jci (m*size) cs))):=jhl (f:=fun m=>some (AV.s (.cp (jci (Nat.mul m size) cs)))) hm
def qyr (h:Hp) (e:TypeId) (size bytes b n m:Nat) (x:Option AB) (new:List SV):R :=
 jic bytes (Nat.add n m) (ob x (fun x=>AB.casesOn (motive:=fun _=>R) x (fun cs ty =>
  ob (jb4 (Nat.mul n size) (jci 0 cs)) (fun old=>(oif (Nat.ble h.lo b) (oif (Nat.beq ty e) (nw (h.put b none) (jgp old new) e (fun k h=>ok (.s (.slice k 0 (Nat.add n m) (Nat.add n m) false size)) h)) none) none))) (fun _ _=>none)))
def jqv (h:Hp) (e:TypeId) (size bytes:Nat) (v w:AV):R:=jcp w (qct v (ok v h)) (fun b' off' m _ _ _=>ob (rd h b' off' (Nat.mul m size)) (fun new=>j4g h e size bytes m v new))
 (fun rows=>ob (jsi size rows) (fun new=>j4g h e size bytes (jd1 rows) v new)) (qct v (ok v h))
theorem jqw {e:TypeId} {size m:Nat}:jqv h e size bytes (.s .nilSlice) (.s (.slice b' o' m mc' ex' sz'))=ob (rdB (h.get b') o' (m*size)) (fun new=>Nat.casesOn (motive:=fun _=>R) m (some (.s .nilSlice,h)) (fun _=>jic bytes m (nw h new e (fun k h=>ok (.s (.slice k 0 m m false size)) h)))):=rfl
theorem jm6 {n:Nat} {x:R} (h1:n*bytes<=1000000000) (h2:n<=1000000000):jic bytes n x=x:=by
 show oif (Nat.ble (Nat.mul n bytes) 1000000000) (oif (Nat.ble n 1000000000) x none) none=_
 rw[show Nat.ble (Nat.mul n bytes) 1000000000=true from jh5 h1,jh5 h2];rfl
theorem jg2 {e:TypeId} {size b n m:Nat} (hm:1<=m):jqv h e size bytes (.s (.slice b 0 n n false size)) (.s (.slice b' o' m mc' ex' sz'))=ob (rdB (h.get b') o' (m*size)) (fun new=>qyr h e size bytes b n m (h.get b) new):=by
 show ob (rdB (h.get b') o' (m*size)) (fun new=>oif (Nat.beq size size) (oif (Nat.ble (Nat.add n m) n) _ (jic bytes (Nat.add n m) (jf2 h e size b 0 n m false new))) none)=_
 congr 1
 funext new
 have e1:Nat.ble (Nat.add n m) n=false:=by
  cases e:Nat.ble (Nat.add n m) n with
  | false=>rfl
  | true=>rw[jqp] at e;have:n+m<=n:=e;omega
 rw[f13]
 show oif (Nat.ble (Nat.add n m) n) _ _=_
 rw[e1]
 rfl
theorem j7x {e:TypeId} {size b n m:Nat} {cs new:List SV} (k:Ok h) (hc:cs.length=n*size) (h1:(n+m)*bytes<=1000000000) (h2:n+m<=1000000000) :
 qyr h e size bytes b n m (some (.arr cs e)) new=some (.s (.slice h.next 0 (n+m) (n+m) false size),(h.put b none).push (.arr (cs++new) e)):=by
 show jic bytes (n+m) (ob (jb4 (n*size) cs) (fun old=>oif (Nat.ble h.lo b) (oif (Nat.beq e e) (nw (h.put b none) (jgp old new) e _) none) none))=_
 rw[jm6 h1 h2,(jbc _).2 ⟨f26 hc.symm,rfl⟩,←hc,f21]
 show oif (Nat.ble h.lo b) (oif (Nat.beq e e) (nw (h.put b none) (jgp cs new) e _) none) none=_
 rw[k.lo,f13,jw5 (jap k),jc8,Hp.next_put]
 rfl
def qze (v:AV):Option (Bool×List SV):=AV.casesOn (motive:=fun _=>Option (Bool×List SV)) v (fun s=>some (false,[s])) (fun l=>some (true,l)) (fun _=>none) none none
theorem jl1:jf9 fr h []=some []:=rfl
theorem je4 {r:IR} {l:List IR}:jf9 fr h (r::l)=ob (jms fr h r) (fun v=>ob (jf9 fr h l) (fun x=>some (v::x))):=rfl
theorem jl2:jb6 (.mk fr h) []=some (.tup [],h):=rfl
theorem j5d {r:IR}:jb6 (.mk fr h) [r]=ob (jms fr h r) (fun p=>ob (jf6 p.1 p.2) (fun v=>some (v,h))):=by
 show ob (ob (jms fr h r) (fun v=>ob (some []) (fun x=>some (v::x)))) (fun vs=>List.casesOn (motive:=fun _=>R) vs (ok (.tup []) h) (fun p r=>List.casesOn (motive:=fun _=>R) r (ob (jf6 p.1 p.2) (fun v=>ok v h)) (fun _ _=>ok (.tup vs) h)))=_
 cases jms fr h r<;>rfl
theorem j5e {r r':IR} {l:List IR}:jb6 (.mk fr h) (r::r'::l)=ob (jf9 fr h (r::r'::l)) (fun vs=>some (.tup vs,h)):=by
 show ob (jf9 fr h (r::r'::l)) (fun vs=>List.casesOn (motive:=fun _=>R) vs (ok (.tup []) h) (fun p r=>List.casesOn (motive:=fun _=>R) r (ob (jf6 p.1 p.2) (fun v=>ok v h)) (fun _ _=>ok (.tup vs) h)))=_
 rw[je4,je4]
 cases jms fr h r with
 | none=>rfl
 | some a=>cases jms fr h r' with
  | none=>rfl
  | some b=>cases jf9 fr h l<;>rfl
theorem qd2 {v:AV}:ok v h=some (v,h):=rfl
theorem jzx {es:List Ent} {hid:List (Nat×Nat)}:sel es [] hid=some hid:=rfl
theorem jtj {es:List Ent} {hid:List (Nat×Nat)}:sel es (j::js) hid=ob (jef es j) (fun e=>ob (sel es js hid) (fun l=>Ent.casesOn (motive:=fun _=>Option (List (Nat×Nat))) e (fun iv _=>some (iv++l)))):=by
 show ob (jef es j) (fun e=>ob (sel es js hid) (fun l=>Ent.casesOn (motive:=fun _=>Option (List (Nat×Nat))) e (fun iv _=>some (jgp iv l))))=_
 simp only[jc8]
def fpV:AV->List Nat
 | .s (.ptr b _)=>[b]
 | _=>[]
theorem jzy {b:Nat}:fpV (.s (.ptr b o))=[b]:=rfl
theorem j7y {cs:List SV}:fpV (.s (.cp cs))=[]:=rfl
theorem jw6 {es:List Ent} {dst:Option Nat} {n:Nat} {x:Od} {l:List (IOper×Option (List Nat))}:WD F ((.mk dst (.a (.load n agg x)) none,some js)::l) st es fr h Q=obP (sel es js h.hid) (fun hid'=>obP (ev st fr x) (fun p=>obP (jmv (h.hide h.next hid') n agg p) (fun v=>WD F l (v::st) (.mk [] (some (fpV p))::es) (jcy fr dst v) h Q))):=by
 cases h with
 | mk k t lo hid =>
 rw[j7k (x:=ob (sel es js hid) (fun hid'=>ob (ev st fr x) (fun p=>ob (jmv (.mk k t k hid') n agg p) (fun v=>some (DR.mk v (.mk k t lo hid) (.mk [] (some (fpV p)))))))) (fun cl=>?_)]
 .refine propext ⟨fun⟨p,h1,h2⟩=>?_,fun⟨hid',h0,q,h1,v,h2,h3⟩=>⟨.mk v (.mk k t lo hid) (.mk [] (some (fpV q))),jaa.2 ⟨hid',h0,jaa.2 ⟨q,h1,jaa.2 ⟨v,h2,rfl⟩⟩⟩,h3⟩⟩
  obtain⟨hid',h3,h4⟩:=jaa.1 h1
  obtain⟨q,h5,h6⟩:=jaa.1 h4
  obtain⟨v,h7,h8⟩:=jaa.1 h6
  cases h8
  exact⟨hid',h3,q,h5,v,h7,h2⟩
 .show jmc cl st fr es (.mk k t lo hid) (.a (.load n agg x)) js=_
  show ob (sel es js hid) (fun hid'=>Cls.casesOn (motive:=fun _=>Option DR) (jwa (ob (ev st fr x) (fun v=>jew v (fun b _=>some (Cls.load b)) (fun _=>some .quiet))) (fun c=>c))
   (jmz cl st fr k t lo k hid hid' (.a (.load n agg x)) (fun n'=>.mk [(k,n')] (some [])))
   (fun x'=>jmz cl st fr k t lo k hid hid' (.a (.load n agg x)) (fun _=>.mk [] (some [x'])))
   (fun b=>oif (jjf es js b) (oif (Nat.ble lo b) (ob (Hp.get (.mk k t lo hid') b) (fun _=>jmz cl st fr k t lo lo hid hid' (.a (.load n agg x)) (fun n'=>.mk [(b,Nat.succ b),(k,n')] none))) none) none)
   (jmz cl st fr k t lo k hid hid' (.a (.load n agg x)) (fun _=>.mk [] (some [])))
   (jmz cl st fr k t lo k hid hid' (.a (.load n agg x)) (fun n'=>.mk [(k,n')] none)))=_
  congr 1
  funext hid'
  have key:∀ e:Nat->Ent,jmz cl st fr k t lo k hid hid' (.a (.load n agg x)) e=ob (ev st fr x) (fun p=>ob (jmv (.mk k t k hid') n agg p) (fun v=>some (DR.mk v (.mk k t lo hid) (e k)))):=fun e=>by
   show ob (aop cl st fr (.mk k t k hid') (.load n agg x)) _=_
   rw[jiv (show AO.calls (.load n agg x)=false from rfl),j2e]
   cases ev st fr x with
   | none=>rfl
   | some p =>
    show ob (ob (jmv (.mk k t k hid') n agg p) _) _=ob (jmv (.mk k t k hid') n agg p) _
    cases jmv (.mk k t k hid') n agg p<;>rfl
  have k1:=key (fun n'=>.mk [(k,n')] none)
  have k3:=key (fun _=>.mk [] (some []))
  have k2:=fun b=>key (fun _=>.mk [] (some [b]))
  cases hx:ev st fr x with
  | none =>
   rw[hx] at k1
   exact k1
  | some p =>
   rw[hx] at k1 k3
   simp only[hx] at k2
   cases p with
   | s p =>
    cases p with
    | ptr b o=>exact k2 b
    | cp cs=>exact k3
    | _=>exact k1
   | _=>exact k1
theorem jqx {es:List Ent} {dst:Option Nat} {e:TypeId} {size:Nat} {len:Nat} {ps:List (Nat×Nat×Od)} {l:List (IOper×Option (List Nat))}:WD F ((.mk dst (.a (.bslice e size z len ps)) none,some js)::l) st es fr h Q=obP (sel es js h.hid) (fun hid'=>obP (fill st fr ps z) (fun cs=>jas hid' h.next=false/\WD F l (.s (.slice h.next 0 len len true size)::st) (.mk [(h.next,h.next+1)] (some [])::es) (jcy fr dst (.s (.slice h.next 0 len len true size))) (h.push (.arr cs e)) Q)):=by
 cases h with
 | mk k t lo hid =>
 rw[j7k (x:=ob (sel es js hid) (fun hid'=>ob (fill st fr ps z) (fun cs=>oif (jas hid' k) none (some (DR.mk (.s (.slice k 0 len len true size)) ((Hp.mk k t lo hid).push (.arr cs e)) (.mk [(k,k+1)] (some []))))))) (fun cl=>?_)]
 .refine propext ⟨fun⟨p,h1,h2⟩=>?_,fun⟨hid',h0,cs,h1,h2,h3⟩=>⟨DR.mk (.s (.slice k 0 len len true size)) ((Hp.mk k t lo hid).push (.arr cs e)) (.mk [(k,k+1)] (some [])),jaa.2 ⟨hid',h0,jaa.2 ⟨cs,h1,?_⟩⟩,h3⟩⟩
  .obtain ⟨hid',h3,h4⟩:=jaa.1 h1
   obtain⟨cs,h5,h6⟩:=jaa.1 h4
   rw[jax] at h6
   split at h6
   .cases h6
   .rename_i h7
    cases h6
    exact⟨hid',h3,cs,h5,Bool.eq_false_iff.2 h7,h2⟩
  .have h2':jas hid' k=false:=h2
   rw[h2'];rfl
 .show jmc cl st fr es (.mk k t lo hid) (.a (.bslice e size z len ps)) js=_
  show ob (sel es js hid) (fun hid'=>ob (ob (fill st fr ps z) (fun cs=>oif (jas hid' k) none (ok (.s (.slice k 0 len len true size)) (Hp.mk (Nat.succ k) (t.put (Nat.succ k) k (some (.arr cs e))) k hid')))) (fun p=>Hp.casesOn (motive:=fun _=>Option DR) p.2 (fun n' t' _ _=>some (.mk p.1 (.mk n' t' lo hid) (.mk [(k,n')] (some []))))))=_
  congr 1
  funext hid'
  cases fill st fr ps z with
  | none=>rfl
  | some cs =>
   show ob (oif (jas hid' k) none _) _=oif (jas hid' k) none _
   cases jas hid' k<;>rfl
end
section
variable {F:Fns} {s:St} {st fr:List AV} {h h':Hp} {Q:Ex->St->Prop} {l:List IOper} {dst:Option Nat} {v w:AV} {m:List (IOper×Option (List Nat))} {es:List Ent}
def zpO (F:Fns) (x:Option AV) (dst:Option Nat) (l:List IOper) (st fr:List AV) (h:Hp) (Q:Ex->St->Prop):Prop:=obP x (fun v=>WO F l (v::st) (jcy fr dst v) h Q)
theorem jtk:zpO F (some v) dst l st fr h Q=WO F l (v::st) (jcy fr dst v) h Q:=jce
def zmO (F:Fns) (x:R) (dst:Option Nat) (l:List IOper) (st fr:List AV) (Q:Ex->St->Prop):Prop:=obP x (fun p=>WO F l (p.1::st) (jcy fr dst p.1) p.2 Q)
theorem jtl:zmO F (some (v,h)) dst l st fr Q=WO F l (v::st) (jcy fr dst v) h Q:=jce
def qjq (F:Fns) (dst:Option Nat) (l:List IOper) (st fr:List AV) (Q:Ex->St->Prop) (v:AV) (h:Hp):Prop:=WO F l (v::st) (jcy fr dst v) h Q
theorem jtm:qjq F dst l st fr Q v h=WO F l (v::st) (jcy fr dst v) h Q:=rfl
def zkO (F:Fns) (x:Option (List AV)) (f:FuncId) (dst:Option Nat) (l:List IOper) (st fr:List AV) (h:Hp) (Q:Ex->St->Prop):Prop:=obP x (fun vs=>WC F f vs h (qjq F dst l st fr Q))
theorem jtn {f:FuncId}:zkO F (some vs) f dst l st fr h Q=WC F f vs h (qjq F dst l st fr Q):=jce
def zgO (F:Fns) (x:Option AV) (t:Bool) (dst:Option Nat) (op:IOp) (l:List IOper) (st fr:List AV) (h:Hp) (Q:Ex->St->Prop):Prop:=gP x t (WO F (.mk dst op none::l) st fr h Q) (WO F l (.undef::st) (jcy fr dst .undef) h Q)
theorem jto {b:Bool} {op:IOp}:zgO F (some (.s (.bool b))) t dst op l st fr h Q=if b=t then WO F (.mk dst op none::l) st fr h Q else WO F l (.undef::st) (jcy fr dst .undef) h Q:=j7i
theorem jpb {op:IOp}:zgO F (some .undef) t dst op l st fr h Q=WO F l (.undef::st) (jcy fr dst .undef) h Q:=j2d
def zcO (F:Fns) (x:Option AV) (a b:IC) (fr:List AV) (h:Hp) (Q:Ex->St->Prop):Prop:=qvu x (W F a (.mk fr h) Q) (W F b (.mk fr h) Q)
theorem jtp {b:Bool} {x y:IC}:zcO F (some (.s (.bool b))) x y fr h Q=if b=true then W F x (.mk fr h) Q else W F y (.mk fr h) Q:=j7d
theorem jzz {c:Od} {x y:IC}:W F (.cond c x y) (.mk fr h) Q=zcO F (ev [] fr c) x y fr h Q:=qq9
theorem jz0 {o:PO}:WO F (.mk dst (.p o) none::l) st fr h Q=zpO F (pop st fr o) dst l st fr h Q:=qje
theorem jz1 {f:FuncId} {as:List Od}:WO F (.mk dst (.a (.call f as)) none::l) st fr h Q=zkO F (evs st fr as) f dst l st fr h Q:=qjf
theorem jtq {op:IOp}:WO F (.mk dst op (some (i,t))::l) st fr h Q=zgO F (jef st i) t dst op l st fr h Q:=qdu
theorem j2g {x:Od} {as:List Od} {f:FuncId} {caps:List (Nat×Nat)} (hx:ev st fr x=some (.s (.func f caps))):WO F (.mk dst (.a (.callv x as)) none::l) st fr h Q=zkO F (ob (evs st fr as) (fun vs=>some (vs++jf7 caps))) f dst l st fr h Q:=by
 rw[qdt]
 refine propext ⟨fun⟨g,cs,h1,vs,h2,h3⟩=>?_,fun⟨vs,h1,h2⟩=>?_⟩
 .rw [hx] at h1;cases h1
  exact⟨_,jaa.2 ⟨vs,h2,rfl⟩,h3⟩
 .obtain ⟨us,h3,h4⟩:=jaa.1 h1
  cases h4
  exact⟨f,caps,hx,us,h3,h2⟩
def zpD (F:Fns) (x:Option AV) (e:Ent) (dst:Option Nat) (m:List (IOper×Option (List Nat))) (st:List AV) (es:List Ent) (fr:List AV) (h:Hp) (Q:Ex->St->Prop):Prop:=obP x (fun v=>WD F m (v::st) (e::es) (jcy fr dst v) h Q)
theorem jtr {e:Ent}:zpD F (some v) e dst m st es fr h Q=WD F m (v::st) (e::es) (jcy fr dst v) h Q:=jce
def zmD (F:Fns) (x:R) (dst:Option Nat) (m:List (IOper×Option (List Nat))) (st:List AV) (es:List Ent) (fr:List AV) (Q:Ex->St->Prop):Prop:=obP x (fun p=>WD F m (p.1::st) (.mk [] (some [])::es) (jcy fr dst p.1) p.2 Q)
theorem jts:zmD F (some (v,h)) dst m st es fr Q=WD F m (v::st) (.mk [] (some [])::es) (jcy fr dst v) h Q:=jce
def qjr (F:Fns) (dst:Option Nat) (m:List (IOper×Option (List Nat))) (st:List AV) (es:List Ent) (fr:List AV) (Q:Ex->St->Prop) (v:AV) (h:Hp):Prop:=WD F m (v::st) (.mk [] (some [])::es) (jcy fr dst v) h Q
theorem jtt:qjr F dst m st es fr Q v h=WD F m (v::st) (.mk [] (some [])::es) (jcy fr dst v) h Q:=rfl
def zkD (F:Fns) (x:Option (List AV)) (f:FuncId) (dst:Option Nat) (m:List (IOper×Option (List Nat))) (st:List AV) (es:List Ent) (fr:List AV) (h:Hp) (Q:Ex->St->Prop):Prop:=obP x (fun vs=>WC F f vs h (qjr F dst m st es fr Q))
theorem jtu {f:FuncId}:zkD F (some vs) f dst m st es fr h Q=WC F f vs h (qjr F dst m st es fr Q):=jce
def zgD (F:Fns) (x:Option AV) (t:Bool) (dst:Option Nat) (op:IOp) (o:Option (List Nat)) (m:List (IOper×Option (List Nat))) (st:List AV) (es:List Ent) (fr:List AV) (h:Hp) (Q:Ex->St->Prop):Prop:=gP x t (WD F ((.mk dst op none,o)::m) st es fr h Q) (WD F m (.undef::st) (.mk [] (some [])::es) (jcy fr dst .undef) h Q)
theorem jtv {b:Bool} {op:IOp} {o:Option (List Nat)}:zgD F (some (.s (.bool b))) t dst op o m st es fr h Q=if b=t then WD F ((.mk dst op none,o)::m) st es fr h Q else WD F m (.undef::st) (.mk [] (some [])::es) (jcy fr dst .undef) h Q:=j7i
theorem jpc {op:IOp} {o:Option (List Nat)}:zgD F (some .undef) t dst op o m st es fr h Q=WD F m (.undef::st) (.mk [] (some [])::es) (jcy fr dst .undef) h Q:=j2d
theorem jz2 {o:PO}:WD F ((.mk dst (.p o) none,none)::m) st es fr h Q=zpD F (pop st fr o) (.mk [] (some [])) dst m st es fr h Q:=qjg
theorem jz3 {f:FuncId} {as:List Od}:WD F ((.mk dst (.a (.call f as)) none,none)::m) st es fr h Q=zkD F (evs st fr as) f dst m st es fr h Q:=qjh
theorem jtw {op:IOp} {o:Option (List Nat)}:WD F ((.mk dst op (some (i,t)),o)::m) st es fr h Q=zgD F (jef st i) t dst op o m st es fr h Q:=qdv
def qys (F:Fns) (x:Option (List (Nat×Nat))) (o:Option AV) (dst:Option Nat) (m:List (IOper×Option (List Nat))) (st:List AV) (es:List Ent) (fr:List AV) (h:Hp) (Q:Ex->St->Prop):Prop:=obP x (fun _=>zpD F o (.mk [(h.next,h.next)] (some [])) dst m st es fr h Q)
theorem jpd {x:List (Nat×Nat)} {o:Option AV}:qys F (some x) o dst m st es fr h Q=zpD F o (.mk [(h.next,h.next)] (some [])) dst m st es fr h Q:=jce
theorem jhm {o:PO}:WD F ((.mk dst (.p o) none,some js)::m) st es fr h Q=qys F (sel es js h.hid) (pop st fr o) dst m st es fr h Q:=jw2
def qv0 (F:Fns) (x:Option (List (Nat×Nat))) (n:Nat) (agg:Bool) (p:Option AV) (dst:Option Nat) (m:List (IOper×Option (List Nat))) (st:List AV) (es:List Ent) (fr:List AV) (h:Hp) (Q:Ex->St->Prop):Prop:=obP x (fun hid'=>obP p (fun p=>zpD F (jmv (h.hide h.next hid') n agg p) (.mk [] (some (fpV p))) dst m st es fr h Q))
theorem jpe {x:List (Nat×Nat)} {n:Nat}:qv0 F (some x) n agg (some w) dst m st es fr h Q=zpD F (jmv (h.hide h.next x) n agg w) (.mk [] (some (fpV w))) dst m st es fr h Q:=by
 unfold qv0;rw[jce,jce]
theorem jhn {n:Nat} {x:Od}:WD F ((.mk dst (.a (.load n agg x)) none,some js)::m) st es fr h Q=qv0 F (sel es js h.hid) n agg (ev st fr x) dst m st es fr h Q:=jw6
def qu0 (F:Fns) (x:Option (List (Nat×Nat))) (cs:Option (List SV)) (e:TypeId) (size len:Nat) (dst:Option Nat) (m:List (IOper×Option (List Nat))) (st:List AV) (es:List Ent) (fr:List AV) (h:Hp) (Q:Ex->St->Prop):Prop:=obP x (fun hid'=>obP cs (fun cs=>jas hid' h.next=false/\WD F m (.s (.slice h.next 0 len len true size)::st) (.mk [(h.next,h.next+1)] (some [])::es) (jcy fr dst (.s (.slice h.next 0 len len true size))) (h.push (.arr cs e)) Q))
theorem jj2 {x:List (Nat×Nat)} {cs:List SV} {e:TypeId} {size len:Nat} (hx:jas x h.next=false):qu0 F (some x) (some cs) e size len dst m st es fr h Q=WD F m (.s (.slice h.next 0 len len true size)::st) (.mk [(h.next,h.next+1)] (some [])::es) (jcy fr dst (.s (.slice h.next 0 len len true size))) (h.push (.arr cs e)) Q:=by
 unfold qu0;rw[jce,jce];exact propext ⟨fun h=>h.2,fun h=>⟨hx,h⟩⟩
theorem jz4 {cs:List SV} {e:TypeId} {size len:Nat}:qu0 F (some []) (some cs) e size len dst m st es fr h Q=WD F m (.s (.slice h.next 0 len len true size)::st) (.mk [(h.next,h.next+1)] (some [])::es) (jcy fr dst (.s (.slice h.next 0 len len true size))) (h.push (.arr cs e)) Q:=jj2 rfl
theorem jf3 {e:TypeId} {size:Nat} {len:Nat} {ps:List (Nat×Nat×Od)}:WD F ((.mk dst (.a (.bslice e size z len ps)) none,some js)::m) st es fr h Q=qu0 F (sel es js h.hid) (fill st fr ps z) e size len dst m st es fr h Q:=jqx
def qzf (F:Fns) (x:Option (List (Nat×Nat))) (u:AV) (dst:Option Nat) (m:List (IOper×Option (List Nat))) (st:List AV) (es:List Ent) (fr:List AV) (h:Hp) (Q:Ex->St->Prop):Prop:=obP x (fun _=>WD F m (u::st) (.mk [(h.next,h.next)] none::es) (jcy fr dst u) h Q)
theorem jpf {x:List (Nat×Nat)} {u:AV}:qzf F (some x) u dst m st es fr h Q=WD F m (u::st) (.mk [(h.next,h.next)] none::es) (jcy fr dst u) h Q:=jce
theorem j7z {e:TypeId}:WO F (.mk dst (.a (.new e z)) none::l) st fr h Q=zmO F (jfg st fr h (.new e z)) dst l st fr Q:=jmq rfl
theorem j70 {e:TypeId}:WD F ((.mk dst (.a (.new e z)) none,none)::m) st es fr h Q=zmD F (jfg st fr h (.new e z)) dst m st es fr Q:=jmr rfl
theorem j71 {e:TypeId} {x:Od}:WO F (.mk dst (.a (.box e x)) none::l) st fr h Q=zmO F (jfg st fr h (.box e x)) dst l st fr Q:=jmq rfl
theorem j72 {e:TypeId} {x:Od}:WD F ((.mk dst (.a (.box e x)) none,none)::m) st es fr h Q=zmD F (jfg st fr h (.box e x)) dst m st es fr Q:=jmr rfl
theorem jpg {e:TypeId} {size:Nat} {len:Nat} {ps:List (Nat×Nat×Od)}:WO F (.mk dst (.a (.bslice e size z len ps)) none::l) st fr h Q=zmO F (jfg st fr h (.bslice e size z len ps)) dst l st fr Q:=jmq rfl
theorem jph {e:TypeId} {size:Nat} {len:Nat} {ps:List (Nat×Nat×Od)}:WD F ((.mk dst (.a (.bslice e size z len ps)) none,none)::m) st es fr h Q=zmD F (jfg st fr h (.bslice e size z len ps)) dst m st es fr Q:=jmr rfl
theorem jl3 {e:TypeId} {size:Nat} {x y:Od}:WO F (.mk dst (.a (.mkslice e size bytes z x y)) none::l) st fr h Q=zmO F (jfg st fr h (.mkslice e size bytes z x y)) dst l st fr Q:=jmq rfl
theorem jl4 {e:TypeId} {size:Nat} {x y:Od}:WD F ((.mk dst (.a (.mkslice e size bytes z x y)) none,none)::m) st es fr h Q=zmD F (jfg st fr h (.mkslice e size bytes z x y)) dst m st es fr Q:=jmr rfl
theorem jz5 {n:Nat} {x:Od}:WO F (.mk dst (.a (.load n agg x)) none::l) st fr h Q=zmO F (jfg st fr h (.load n agg x)) dst l st fr Q:=jmq rfl
theorem jz6 {n:Nat} {x:Od}:WD F ((.mk dst (.a (.load n agg x)) none,none)::m) st es fr h Q=zmD F (jfg st fr h (.load n agg x)) dst m st es fr Q:=jmr rfl
theorem jtx {n:Nat} {x y:Od}:WO F (.mk dst (.a (.store n x y)) none::l) st fr h Q=zmO F (jfg st fr h (.store n x y)) dst l st fr Q:=jmq rfl
theorem jty {n:Nat} {x y:Od}:WD F ((.mk dst (.a (.store n x y)) none,none)::m) st es fr h Q=zmD F (jfg st fr h (.store n x y)) dst m st es fr Q:=jmr rfl
theorem j73 {e:TypeId} {size:Nat} {x y:Od}:WO F (.mk dst (.a (.app e size bytes x y)) none::l) st fr h Q=zmO F (jfg st fr h (.app e size bytes x y)) dst l st fr Q:=jmq rfl
theorem j74 {e:TypeId} {size:Nat} {x y:Od}:WD F ((.mk dst (.a (.app e size bytes x y)) none,none)::m) st es fr h Q=zmD F (jfg st fr h (.app e size bytes x y)) dst m st es fr Q:=jmr rfl
theorem jz7 {size:Nat} {x y:Od}:WO F (.mk dst (.a (.copy size x y)) none::l) st fr h Q=zmO F (jfg st fr h (.copy size x y)) dst l st fr Q:=jmq rfl
theorem jz8 {size:Nat} {x y:Od}:WD F ((.mk dst (.a (.copy size x y)) none,none)::m) st es fr h Q=zmD F (jfg st fr h (.copy size x y)) dst m st es fr Q:=jmr rfl
def qyt (o:BO) (x y:Option AV):Option AV:=ob x (fun a=>ob y (fun b=>svc none a (fun a=>svc none b (fun b=>jcx o a b))))
theorem j75 {o:BO} {x y:Od}:pop st fr (.bin o x y)=qyt o (ev st fr x) (ev st fr y):=rfl
theorem jpi {o:BO} {a b:SV}:qyt o (some (.s a)) (some (.s b))=jcx o a b:=rfl
def qv1 (off:Nat) (x:Option AV):Option AV:=ob x (fun v=>jew v (fun b o=>some (.s (.ptr b (o+off)))) (fun cs=>some (.s (.cp (jci off cs)))))
theorem j76 {off:Nat} {x:Od}:pop st fr (.fld off x)=qv1 off (ev st fr x):=rfl
theorem jtz {off b:Nat}:qv1 off (some (.s (.ptr b o)))=some (.s (.ptr b (o+off))):=rfl
theorem jz9 {off:Nat} {cs:List SV}:qv1 off (some (.s (.cp cs)))=some (.s (.cp (jci off cs))):=rfl
def qjs (x:Option AV):Option AV:=ob x (fun v=>jew v (fun b o=>some (.s (.ptr b o))) (fun cs=>some (.s (.cp cs))))
theorem j0a {x:Od}:pop st fr (.nchk x)=qjs (ev st fr x):=rfl
theorem jpj {b:Nat}:qjs (some (.s (.ptr b o)))=some (.s (.ptr b o)):=rfl
theorem jt0 {cs:List SV}:qjs (some (.s (.cp cs)))=some (.s (.cp cs)):=rfl
def qyu (x:Option AV):Option AV:=ob x jyv
theorem j77 {x:Od}:pop st fr (.len x)=qyu (ev st fr x):=rfl
theorem jpk:qyu (some v)=jyv v:=rfl
def qyv (size:Nat) (x y:Option AV):Option AV:=ob x (fun v=>ob y (fun w=>jyw size v w))
theorem j78 {size:Nat} {x i:Od}:pop st fr (.ixs size x i)=qyv size (ev st fr x) (ev st fr i):=rfl
theorem jpl {size:Nat}:qyv size (some v) (some w)=jyw size v w:=rfl
def qyw (n size:Nat) (x y:Option AV):Option AV:=ob x (fun v=>ob y (fun w=>qf0 n size v w))
theorem j79 {n size:Nat} {x i:Od}:pop st fr (.ixa n size x i)=qyw n size (ev st fr x) (ev st fr i):=rfl
theorem jpm {n size:Nat}:qyw n size (some v) (some w)=qf0 n size v w:=rfl
def qre (x:Option AV) (a b:Od) (st fr:List AV):Option AV:=ob x (fun v=>jio v (fun t=>ev st fr (oif t a b)))
theorem j0b {c a b:Od}:pop st fr (.pick c a b)=qre (ev st fr c) a b st fr:=rfl
theorem jl5 {a b:Od}:qre (some (.s (.bool t))) a b st fr=if t=true then ev st fr a else ev st fr b:=by cases t<;>rfl
def qyx (i:Nat) (x:Option AV):Option AV:=ob x (fun v=>AV.casesOn (motive:=fun _=>Option AV) v (fun _=>none) (fun _=>none) (fun l=>ob (jef l i) (fun p=>jf6 p.1 p.2)) none none)
theorem j8a {x:Od}:pop st fr (.ext i x)=qyx i (ev st fr x):=rfl
def mk1 (p:Option (Bool×List SV)):Option AV:=ob p (fun p=>jf6 p.1 p.2)
theorem jt1 {a:Bool} {l:List SV}:mk1 (some (a,l))=jf6 a l:=rfl
theorem jt2 {l:List (Bool×List SV)}:qyx i (some (.tup l))=mk1 (jef l i):=rfl
def ldR (h:Hp) (agg:Bool) (cs:Option (List SV)):R:=ob cs (fun cs=>ob (jf6 agg cs) (fun v=>ok v h))
theorem qjt {cs:List SV}:ldR h true (some cs)=some (.agg cs,h):=rfl
theorem qju {a:SV}:ldR h false (some [a])=some (.s a,h):=rfl
def qjv (h:Hp) (n:Nat) (agg:Bool) (x:Option AV):R:=ob x (fun v=>ob (jmv h n agg v) (fun v=>ok v h))
theorem j0c {n:Nat} {x:Od}:jfg st fr h (.load n agg x)=qjv h n agg (ev st fr x):=j2e
theorem jpn {n b:Nat}:qjv h n agg (some (.s (.ptr b o)))=ldR h agg (rdB (h.get b) o n):=by
 show ob (ob (rdB (h.get b) o n) _) _=_
 rw[qjn];rfl
theorem jt3 {n:Nat} {cs:List SV}:qjv h n agg (some (.s (.cp cs)))=ldR h agg (jb4 n cs):=by
 show ob (ob (jb4 n cs) _) _=_
 rw[qjn];rfl
def jij (h:Hp) (n:Nat) (x y:Option AV):R:=ob x (fun p=>ob y (fun v=>j7w h n p v))
theorem jt4 {n:Nat} {x v:Od}:jfg st fr h (.store n x v)=jij h n (ev st fr x) (ev st fr v):=rfl
def stR (h:Option Hp):R:=ob h (fun h=>ok .undef h)
theorem jt5:stR (some h)=some (.undef,h):=rfl
theorem qd3 {b:Nat} {x:SV} (k:Ok h):jij h 1 (some (.s (.ptr b o))) (some (.s x))=stR (wrB h b (h.get b) o [x]):=qd1 k
theorem j5f {n b:Nat} {cs:List SV} (k:Ok h) (hn:cs.length=n):jij h n (some (.s (.ptr b o))) (some (.agg cs))=stR (wrB h b (h.get b) o cs):=j5b k hn
def qyy (h:Hp) (e:TypeId) (size bytes:Nat) (x y:Option AV):R:=ob x (fun v=>ob y (fun w=>jqv h e size bytes v w))
theorem j8b {e:TypeId} {size:Nat} {x y:Od}:jfg st fr h (.app e size bytes x y)=qyy h e size bytes (ev st fr x) (ev st fr y):=rfl
theorem jpo {e:TypeId} {size:Nat}:qyy h e size bytes (some v) (some w)=jqv h e size bytes v w:=rfl
def bsO (h:Hp) (e:TypeId) (size len:Nat) (x:Option (List SV)):R:=ob x (fun cs=>some (.s (.slice h.next 0 len len true size),h.push (.arr cs e)))
theorem jt6 {e:TypeId} {size len:Nat} {cs:List SV}:bsO h e size len (some cs)=some (.s (.slice h.next 0 len len true size),h.push (.arr cs e)):=rfl
theorem j8c {e:TypeId} {size:Nat} {len:Nat} {ps:List (Nat×Nat×Od)} (k:Ok h):jfg st fr h (.bslice e size z len ps)=bsO h e size len (fill st fr ps z):=j5c k
def qu1 (h:Hp) (e:TypeId) (x:Option AV):R:=ob x (fun v=>cel v (fun cs=>some (.s (.ptr h.next 0),h.push (.arr cs e))))
theorem qrf {e:TypeId} {x:Od} (k:Ok h):jfg st fr h (.box e x)=qu1 h e (ev st fr x):=qjp k
theorem j8d {e:TypeId} {x:SV}:qu1 h e (some (.s x))=some (.s (.ptr h.next 0),h.push (.arr [x] e)):=rfl
theorem jt7 {e:TypeId} {cs:List SV}:qu1 h e (some (.agg cs))=some (.s (.ptr h.next 0),h.push (.arr cs e)):=rfl
def qyz (h:Hp) (e:TypeId) (size bytes:Nat) (z:List SV) (x y:Option AV):R:=ob x (fun v=>ob y (fun u=>qrd h e size bytes z v u))
theorem jl6 {e:TypeId} {size:Nat} {l c:Od}:jfg st fr h (.mkslice e size bytes z l c)=qyz h e size bytes z (ev st fr l) (ev st fr c):=rfl
theorem jpp {e:TypeId} {size:Nat}:qyz h e size bytes z (some v) (some w)=qrd h e size bytes z v w:=rfl
def re1 (h:Hp) (x:Option (Bool×List SV)):R:=ob x (fun p=>ob (jf6 p.1 p.2) (fun v=>some (v,h)))
theorem j8e {r:IR}:jb6 (.mk fr h) [r]=re1 h (jms fr h r):=j5d
theorem qjw {a:SV}:re1 h (some (false,[a]))=some (.s a,h):=rfl
theorem qjx {l:List SV}:re1 h (some (true,l))=some (.agg l,h):=rfl
def reT (g:Option AV):Option (Bool×List SV):=ob g qze
theorem j8f:jms fr h (.tmp g)=reT (jef fr g):=rfl
theorem qjy {x:SV}:reT (some (.s x))=some (false,[x]):=rfl
theorem j0d {x:List SV}:reT (some (.agg x))=some (true,x):=rfl
def reC (h:Hp) (n:Nat) (agg:Bool) (g:Option AV):Option (Bool×List SV):=ob g (fun v=>jv3 v (fun b off=>ob (rdB (h.get b) off n) (fun cs=>some (agg,cs))))
theorem j0e {n:Nat}:jms fr h (.cell g n agg)=reC h n agg (jef fr g):=rfl
def reP (agg:Bool) (x:Option (List SV)):Option (Bool×List SV):=ob x (fun cs=>some (agg,cs))
theorem jt8 {cs:List SV}:reP agg (some cs)=some (agg,cs):=rfl
theorem j0f {n b:Nat}:reC h n agg (some (.s (.ptr b o)))=reP agg (rdB (h.get b) o n):=rfl
def qv2 (x:R) (Q:AV->Hp->Prop):Prop:=obP x (fun p=>Q p.1 p.2)
theorem jpq {Q:AV->Hp->Prop}:qv2 (some (v,h)) Q=Q v h:=jce
theorem ji0 {res:List IR} {Q:AV->Hp->Prop}:qdw res Q .normal s=qv2 (jb6 s res) Q:=rfl
theorem jt9 {res:List IR} {Q:AV->Hp->Prop}:qdw res Q .ret s=qv2 (jb6 s res) Q:=rfl
def re2 (h:Hp) (x:Option (List (Bool×List SV))):R:=ob x (fun vs=>some (.tup vs,h))
theorem jua {l:List (Bool×List SV)}:re2 h (some l)=some (.tup l,h):=rfl
theorem j8g {r r':IR} {k:List IR}:jb6 (.mk fr h) (r::r'::k)=re2 h (jf9 fr h (r::r'::k)):=j5e
theorem jcg {size b off len mc sz:Nat} {ex:Bool} (hm:1<len):jyw size (.s (.slice b off len mc ex sz)) (vi 1)=some (.s (.ptr b (off+size))):=by
 have:=jbd (size:=size) (b:=b) (off:=off) (len:=len) (mc:=mc) (sz:=sz) (ex:=ex) hm
 rw[Nat.one_mul] at this;exact this
theorem jdv {n size b off:Nat} (hm:0<n):qf0 n size (.s (.ptr b off)) (vi 0)=some (.s (.ptr b off)):=by
 have:=jcu (n:=n) (size:=size) (b:=b) (off:=off) hm
 rw[f2u,f1l] at this;exact this
theorem jdw {n size b off:Nat} (hm:1<n):qf0 n size (.s (.ptr b off)) (vi 1)=some (.s (.ptr b (off+size))):=by
 have:=jcu (n:=n) (size:=size) (b:=b) (off:=off) hm
 rw[Nat.one_mul] at this;exact this
theorem jel {n size:Nat} {cs:List SV} (hm:0<n):qf0 n size (.s (.cp cs)) (vi 0)=some (.s (.cp cs)):=by
 have:=je3 (n:=n) (size:=size) (cs:=cs) hm
 rw[f2u] at this;exact this
theorem jem {n size:Nat} {cs:List SV} (hm:1<n):qf0 n size (.s (.cp cs)) (vi 1)=some (.s (.cp (jci size cs))):=by
 have:=je3 (n:=n) (size:=size) (cs:=cs) hm
 rw[Nat.one_mul] at this;exact this
theorem jub [k:Ok h]:h.hid=[]:=k.hid
theorem jj3 [k:Ok h] {n:Nat} {hid:List (Nat×Nat)}:(h.hide lo hid).get n=if jas hid n=true then none else h.get n:=qd0 k
theorem jj4 [k:Ok h] {e:TypeId} {size:Nat} {len:Nat} {ps:List (Nat×Nat×Od)}:jfg st fr h (.bslice e size z len ps)=bsO h e size len (fill st fr ps z):=j8c k
theorem juc [k:Ok h] {e:TypeId} {x:Od}:jfg st fr h (.box e x)=qu1 h e (ev st fr x):=qrf k
theorem jj5 [k:Ok h] {e:TypeId}:jfg st fr h (.new e z)=some (.s (.ptr h.next 0),h.push (.arr z e)):=qjo k
theorem jud [k:Ok h] {b:Nat} {x:SV}:jij h 1 (some (.s (.ptr b o))) (some (.s x))=stR (wrB h b (h.get b) o [x]):=qd3 k
theorem jj6 [k:Ok h] {n b:Nat} {cs:List SV} (hn:cs.length=n):jij h n (some (.s (.ptr b o))) (some (.agg cs))=stR (wrB h b (h.get b) o cs):=j5f k hn
theorem jj7 [k:Ok h] {b:Nat} {t:SV}:jij h 2 (some (.s (.ptr b o))) (some (.agg [t,u]))=stR (wrB h b (h.get b) o [t,u]):=jj6 rfl
theorem jj8 [k:Ok h] {b:Nat} {t v:SV}:jij h 3 (some (.s (.ptr b o))) (some (.agg [t,u,v]))=stR (wrB h b (h.get b) o [t,u,v]):=jj6 rfl
theorem jj9 [k:Ok h] {b:Nat} {t v w:SV}:jij h 4 (some (.s (.ptr b o))) (some (.agg [t,u,v,w]))=stR (wrB h b (h.get b) o [t,u,v,w]):=jj6 rfl
theorem jka [k:Ok h] {b:Nat} {t v w x:SV}:jij h 5 (some (.s (.ptr b o))) (some (.agg [t,u,v,w,x]))=stR (wrB h b (h.get b) o [t,u,v,w,x]):=jj6 rfl
theorem jkb [k:Ok h] {b:Nat} {t v w x y z:SV}:jij h 7 (some (.s (.ptr b o))) (some (.agg [t,u,v,w,x,y,z]))=stR (wrB h b (h.get b) o [t,u,v,w,x,y,z]):=jj6 rfl
theorem jkc [k:Ok h] {x:AB} {n:Nat}:(h.push x).get n=if n=h.next then some x else h.get n:=jau k
theorem jkd [k:Ok h] {b n:Nat} {x:Option AB} (hb:1<=b):(h.put b x).get n=if n=b then x else h.get n:=jaj k hb
def mkL (agg:Bool) (x:Option (List SV)):Option AV:=ob x (fun cs=>jf6 agg cs)
theorem qjz {cs:List SV}:mkL true (some cs)=some (.agg cs):=rfl
theorem qj0 {a:SV}:mkL false (some [a])=some (.s a):=rfl
theorem j8h {n b:Nat}:jmv h n agg (.s (.ptr b o))=mkL agg (rdB (h.get b) o n):=rfl
theorem qj1 {n:Nat} {cs:List SV}:jmv h n agg (.s (.cp cs))=mkL agg (jb4 n cs):=rfl
theorem qj2 {a b:Int} (h1:0<=a) (h3:0<b):0<=a % b/\a % b<=a:=by
 have h2:=Int.emod_add_mul_ediv a b
 have h:=Int.ediv_nonneg h1 (Int.le_of_lt h3)
 have h4:=Int.mul_nonneg (Int.le_of_lt h3) h
 exact⟨Int.emod_nonneg a (by omega),by omega⟩
theorem jd6 {a b:Int} (h1:0<=a) (h2:a<=9223372036854775807) (h3:0<b):jcx .rem (.int .i64 a) (.int .i64 b)=some (vi (a % b)):=by
 have:=qj2 h1 h3
 rw[jzw,if_neg (by omega),f3b h1,jh4 (by omega) (by omega)]
theorem j8i {a b:Int} (h1:-9223372036854775808<=a) (h2:a<=9223372036854775807) (h3:0<b):-9223372036854775808<=a.tdiv b/\a.tdiv b<=9223372036854775807:=by
 have h:=Int.natAbs_tdiv_le_natAbs a b
 rcases(by omega:a<0∨0<=a) with h4 | h4
 .have h5:a.tdiv b<=0:=by
   obtain⟨c,rfl⟩:∃ c,a=-c:=⟨-a,by omega⟩
   rw[Int.neg_tdiv]
   have:=Int.tdiv_nonneg (a:=c) (b:=b) (by omega) (Int.le_of_lt h3)
   omega
  omega
 .omega
theorem je5 {a b:Int} (h1:-9223372036854775808<=a) (h2:a<=9223372036854775807) (h3:0<b):jcx .quo (.int .i64 a) (.int .i64 b)=some (vi (a.tdiv b)):=by
 have:=j8i h1 h2 h3
 rw[qjk,if_neg (by omega),jh4 this.1 this.2]
theorem ji1 {a n:Int} {k:IntKind} (h1:0<=n) (h2:n<=63):jcx .shr (.int .i64 a) (.int k n)=some (vi (a / 2 ^ n.toNat)):=by
 obtain⟨m,rfl⟩:=Int.eq_ofNat_of_zero_le h1
 exact qjl (by omega)
theorem jen {a n:Nat}:(a=a+(n+1))=False:=eq_false (by omega)
theorem jeo {a n:Nat}:(a+(n+1)=a)=False:=eq_false (by omega)
theorem qd4 {e:TypeId} {x:SV} (ok:Ok h) (h1:bytes<=1000):qrd h e 1 bytes [x] (vi 2) (vi 2)=some (.s (.slice h.next 0 2 2 true 1),h.push (.arr [x,x] e)) :=
 jpa (m:=2) ok (by omega) (by omega)
theorem jgu [ok:Ok h] {e:TypeId} {x:SV} (h1:bytes<=1000):qrd h e 1 bytes [x] (vi 2) (vi 2)=some (.s (.slice h.next 0 2 2 true 1),h.push (.arr [x,x] e)):=qd4 ok h1
theorem jja {a b:Nat} (h:a≠b):(a=b)=False:=eq_false h
theorem jdp {a b:Nat} (h:b<a):(a<=b)=False:=eq_false (by omega)
theorem jdq {a b:Nat} (h:b<=a):(a<b)=False:=eq_false (by omega)
theorem jjb {a b:Nat} (h:a<=b):(a<=b)=True:=eq_true h
theorem jjc {a b:Nat} (h:a<b):(a<b)=True:=eq_true h
theorem qzg {a b:Int} (h:a<=b):(a<=b)=True:=eq_true h
theorem qzh {a b:Int} (h:a<b):(a<b)=True:=eq_true h
def qj3 (F:Fns) (dst:Option Nat) (m:List (IOper×Option (List Nat))) (st:List AV) (es:List Ent) (fr:List AV) (h:Hp) (Q:Ex->St->Prop) (v:AV) (h':Hp):Prop:=WD F m (v::st) (.mk [(h.next,h'.next)] none::es) (jcy fr dst v) (.mk h'.next h'.tr h.lo h.hid) Q
def zkH (F:Fns) (x:Option (List (Nat×Nat))) (vs:Option (List AV)) (f:FuncId) (dst:Option Nat) (m:List (IOper×Option (List Nat))) (st:List AV) (es:List Ent) (fr:List AV) (h:Hp) (Q:Ex->St->Prop):Prop:=obP x (fun hid'=>obP vs (fun vs=>WC F f vs (h.hide h.next hid') (qj3 F dst m st es fr h Q)))
theorem jue {x:List (Nat×Nat)} {f:FuncId}:zkH F (some x) (some vs) f dst m st es fr h Q=WC F f vs (h.hide h.next x) (qj3 F dst m st es fr h Q):=by
 unfold zkH;rw[jce,jce]
theorem jl7 {x:List (Nat×Nat)}:qj3 F dst m st es fr h Q v (h.hide lo x)=WD F m (v::st) (.mk [(h.next,h.next)] none::es) (jcy fr dst v) h Q:=by cases h;rfl
theorem jgv {f:FuncId} {as:List Od}:WD F ((.mk dst (.a (.call f as)) none,some js)::m) st es fr h Q=zkH F (sel es js h.hid) (evs st fr as) f dst m st es fr h Q:=by
 cases h with
 | mk k t lo hid =>
 rw[jop]
 have key:∀ n v h' e,jyt (jbq F (run F n)) st fr es (.mk k t lo hid) (.a (.call f as)) none (some js)=some (.mk v h' e)↔∃ x vs h1,sel es js hid=some x/\evs st fr as=some vs/\jbq F (run F n) f vs (.mk k t k x)=some (v,h1)/\h'=.mk h1.next h1.tr lo hid/\e=.mk [(k,h1.next)] none:=fun n v h' e=>by
  have e0:jyt (jbq F (run F n)) st fr es (.mk k t lo hid) (.a (.call f as)) none (some js)=ob (sel es js hid) (fun x=>ob (ob (evs st fr as) (fun vs=>jbq F (run F n) f vs (.mk k t k x))) (fun p=>Hp.casesOn (motive:=fun _=>Option DR) p.2 (fun n' t' _ _=>some (.mk p.1 (.mk n' t' lo hid) (.mk [(k,n')] none))))):=rfl
  rw[e0]
  constructor
  .intro h1
   obtain⟨x,hx,h2⟩:=jaa.1 h1
   obtain⟨p,hp,h3⟩:=jaa.1 h2
   obtain⟨vs,hvs,h4⟩:=jaa.1 hp
   obtain⟨v1,⟨n1,t1,l1,d1⟩⟩:=p
   cases h3
   exact⟨x,vs,_,hx,hvs,h4,rfl,rfl⟩
  .rintro ⟨x,vs,⟨n1,t1,l1,d1⟩,hx,hvs,h4,rfl,rfl⟩
   exact jaa.2 ⟨x,hx,jaa.2 ⟨(v,.mk n1 t1 l1 d1),jaa.2 ⟨vs,hvs,h4⟩,rfl⟩⟩
 refine propext ⟨fun⟨n,v,h',e,h1,h2⟩=>?_,fun⟨x,hx,vs,hvs,n,v,h1,h2,h3⟩=>⟨n,v,_,_,(key n v _ _).2 ⟨x,vs,h1,hx,hvs,h2,rfl,rfl⟩,h3⟩⟩
 obtain⟨x,vs,h3,hx,hvs,h4,rfl,rfl⟩:=(key n v h' e).1 h1
 exact⟨x,hx,vs,hvs,n,v,h3,h4,h2⟩
theorem jde {a:Nat} {n:Nat}:((a:Int) / 2 ^ n)=((a / 2 ^ n:Nat):Int):=by
 rw[Int.natCast_ediv,f3p];rfl
theorem jdf:(4+(i:Int)).toNat=4+i:=by omega
theorem jdg:(9+(i:Int)).toNat=9+i:=by omega
theorem jdh:(i:Int).toNat=i:=by omega
theorem ji2 {a:Nat}:decide ((a:Int) % 2=1)=decide (a % 2=1):=decide_eq_decide.2 (by omega)
theorem je6 {a:Nat}:(a:Int).tdiv 4=((a / 4:Nat):Int):=rfl
theorem je7 {a:Nat}:(a:Int).tdiv 5=((a / 5:Nat):Int):=rfl
theorem jgh {x:Option AB} {off sz:Nat} {c:SV} (hr:rdB x off sz=some row) (hj:row[j]?=some c):rdB x (off+j) 1=some [c]:=by
 cases x with
 | none=>cases hr
 | some x =>
  cases x with
  | map va es=>cases hr
  | arr cs ty =>
   rw[je2,jb5] at hr ⊢
   obtain⟨h1,rfl⟩:=(jbc _).1 hr
   have hjs:j<sz:=by
    rcases f0i j sz with h | h
    .exact h
    .rw [f0j (by simp;omega)] at hj;cases hj
   have hj2:cs[off+j]?=some c:=by
    rw[f2h,if_pos hjs,f1m] at hj;exact hj
   have hl:off+j<cs.length:=by
    rcases f0i (off+j) cs.length with h | h
    .exact h
    .rw [f0j h] at hj2;cases hj2
   refine(jbc _).2 ⟨by simp;omega,?_⟩
   have e:cs.drop (off+j)=c::cs.drop (off+j+1):=by
    rw[f03 hl]
    rw[f0a hl] at hj2
    rw[Option.some.inj hj2]
   rw[e];rfl
def mmV (mx:Bool) (x y:Option AV):Option AV:=ob x (fun a=>ob y (fun b=>jmy a (fun k m=>jmy b (fun k' n=>oif (Nat.beq (ikn k) (ikn k')) (some (.s (.int k (oif (ile m n) (oif mx n m) (oif mx m n))))) none))))
theorem qj4 {mx:Bool} {x y:Od}:pop st fr (.mm mx x y)=mmV mx (ev st fr x) (ev st fr y):=rfl
theorem j0g {a b:Int}:mmV false (some (.s (.int .i64 a))) (some (.s (.int .i64 b)))=some (vi (if a<=b then a else b)):=by
 show some (AV.s (.int .i64 (oif (ile a b) a b)))=_
 rw[jax,jeh];simp only[decide_eq_true_eq]
theorem j0h {a b:Int}:mmV true (some (.s (.int .i64 a))) (some (.s (.int .i64 b)))=some (vi (if a<=b then b else a)):=by
 show some (AV.s (.int .i64 (oif (ile a b) b a)))=_
 rw[jax,jeh];simp only[decide_eq_true_eq]
end
theorem qzi:type_of% @Int.cast_ofNat_Int:=@Int.cast_ofNat_Int
theorem qzj:type_of% @Int.natCast_zero:=@Int.natCast_zero
theorem qzk:type_of% @Int.natCast_one:=@Int.natCast_one
theorem qzl:type_of% @decide_eq_true_eq:=@decide_eq_true_eq
theorem qzm:type_of% @decide_eq_false_iff_not:=@decide_eq_false_iff_not
theorem qzn:type_of% @Bool.false_eq_true:=@Bool.false_eq_true
theorem qzo:type_of% @and_true:=@and_true
theorem qzp:type_of% @true_and:=@true_and
theorem qzq:type_of% @List.cons_append:=@List.cons_append
theorem qzr:type_of% @List.nil_append:=@List.nil_append
theorem qv3:type_of% @decide_true:=@decide_true
theorem qv4:type_of% @decide_false:=@decide_false
theorem qv5:type_of% @Bool.not_true:=@Bool.not_true
theorem qv6:type_of% @Bool.not_false:=@Bool.not_false
theorem qv7:type_of% @Nat.add_zero:=@Nat.add_zero
theorem qv8:type_of% @Nat.zero_add:=@Nat.zero_add
theorem qv9:type_of% @Option.some.injEq:=@Option.some.injEq
theorem qwa:type_of% @Bool.true_eq_false:=@Bool.true_eq_false
theorem qwb:type_of% @not_true_eq_false:=@not_true_eq_false
theorem qwc:type_of% @not_false_eq_true:=@not_false_eq_true
theorem qwd:type_of% @Hp.next_push:=@Hp.next_push
theorem qwe:type_of% @Hp.next_put:=@Hp.next_put
theorem qwf:type_of% @Nat.add_assoc:=@Nat.add_assoc
attribute [go_sem] jgv jue jl7 j7e qjd j7f qds jzl jzz jtp js6 j7g j7h jz0 jtk jz1 jtn jtm jtq jto jpb jtl j7j jz2 jtr jts jz3 jtu jtt jtw jtv jpc jhm jpd jhn jpe jf3 jpf jz4 jj2 jfv jlp jol jiu jom js5 jhj jlq jon j7z j71 jpg jl3 jz5 jtx j73 jz7 j70 j72 jph jl4 jz6 jty j74 jz8 qvv qvw qvx jzm js7 jot jou jov jow jox joy jiw jix qvy qvz jbg qji joz js8 jls js9 jlt qjj jzn j7l j7m j7n jta jlu jlv jh3 jlw jo0 jtb jo1 jo2 jlx jhk jdm jo3 jzo jzp qj4 j0g j0h j7o j0b jl5 jo4 jtc jo5 j75 jpi jzq jzr j76 jtz jz9 jtd j8a jt2 jt1 j0a jpj jt0 jte jj0 jtf jo6 jly jiy jo7 jtg jth j77 jpk jti jj1 jlz jo8 jzt jzu jzv je5 jd6 ji1 j7q j7r j7s j7t j7u j7v j78 jpl j79 jpm j8e qjw qjx j8f qjy j0d j0e jt8 j0f jpq ji0 jt9 jl1 je4 jl2 j8g jua qd2 je2 jo9 j0c jpn jt3 qjt qju jt4 jt5 jl6 jpp j8b jpo jt6 j8d jt7 jzy j7y jzx jtj jl0 jiz j8h qj1 qjz qj0 jen jeo jcg jcu je3 jdv jdw jel jem jub jj3 jj4 juc jj5 jud jj7 jj8 jj9 jka jkb jj6 jkc jkd jgu jcf jbd qzi qzj qzk qzl qzm qzn qzo qzp qzq qzr qv3 qv4 qv5 qv6 qv7 qv8 qv9 qwa qwb qwc qwd qwe qwf
end
end Go.Proofs.Ytehhjbfmjdlcjaa.Ev
