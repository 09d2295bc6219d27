/- Open runs: what operations answer at values that are known in part. No program in sight. -/
import Derived.Test.YtokcdoklcbgigaaOp
namespace Go.Proofs.Ytokcdoklcbgigaa.Ev
open Go Go.RowKit
set_option linter.all false
variable {t va agg ex' okf:Bool} {rows:List (List SV)} {vs:List AV} {sig:List Bool} {js:List Nat} {z xs row:List SV} {g i j o b' lo o' mc' sz' bytes:Nat}
abbrev vi (n:Int):AV:=.s (.int .i64 n)
abbrev vb (b:Bool):AV:=.s (.bool b)
abbrev si (n:Int):SV:=.int .i64 n
section
variable {st fr:List AV} {h:Hp} {α β:Type}
theorem qr0:ev st fr (.l i)=jej st i:=rfl
theorem qr1:ev st fr (.g i)=jej fr i:=rfl
theorem qr2 {v:AV}:ev st fr (.c v)=some v:=rfl
theorem jy3:evs st fr []=some []:=rfl
theorem js4 {o:Od} {l:List Od}:evs st fr (o::l)=ob (ev st fr o) (fun v=>ob (evs st fr l) (fun r=>some (v::r))):=rfl
theorem jov {a:α} {l:List α}:jej (a::l) 0=some a:=rfl
theorem jow {a:α} {l:List α} {n:Nat}:jej (a::l) (n+1)=jej l n:=rfl
theorem jox {a x:α} {l:List α}:jq4 (a::l) 0 x=x::l:=rfl
theorem joy {a x:α} {l:List α} {n:Nat}:jq4 (a::l) (n+1) x=a::jq4 l n x:=rfl
theorem joz {v:AV}:jch fr none v=fr:=rfl
theorem jo0 {d:Nat} {v:AV}:jch fr (some d) v=jq4 fr d v:=rfl
theorem jjc:jdg 0=[]:=rfl
theorem jjd {n:Nat}:jdg (n+1)=.undef::jdg n:=rfl
theorem qr3 {a:α} {f:α->Option β}:ob (some a) f=f a:=rfl
theorem qr4 {f:α->Option β}:ob none f=none:=rfl
theorem jbc {b:Bool} {x y:α}:oif b x y=if b=true then x else y:=by cases b<;>rfl
theorem qhm {e:Option β} {x:SV} {f:SV->Option β}:svc e (.s x) f=f x:=rfl
theorem jo1 {e:Option β} {f:SV->Option β}:svc e .undef f=e:=rfl
theorem js5 {k:IntKind} {n:Int} {f:IntKind->Int->Option β}:qbu (.int k n) f=f k n:=rfl
theorem jlp {b:Bool} {f:Bool->Option β}:jms (.bool b) f=f b:=rfl
theorem js6 {k:IntKind} {n:Int} {f:IntKind->Int->Option β}:jm1 (.s (.int k n)) f=f k n:=rfl
theorem jlq {b:Bool} {f:Bool->Option β}:ji2 (.s (.bool b)) f=f b:=rfl
theorem qhn {x:SV} {f:List SV->Option β}:cel (.s x) f=f [x]:=rfl
theorem jy4 {l:List SV} {f:List SV->Option β}:cel (.agg l) f=f l:=rfl
theorem j60 {a:SV}:jfk false [a]=some (.s a):=rfl
theorem j61 {l:List SV}:jfk true l=some (.agg l):=rfl
theorem j62 {x:SV} {f:List SV->Option β}:jya false (.s x) f=f [x]:=rfl
theorem js7 {l:List SV} {f:List SV->Option β}:jya true (.agg l) f=f l:=rfl
theorem jlr {l:List α}:jbv 0 l=some []:=rfl
theorem jls {a:α} {l:List α} {n:Nat}:jbv (n+1) (a::l)=ob (jbv n l) (fun x=>some (a::x)):=rfl
theorem jlt {l:List α}:jcc 0 l=l:=rfl
theorem jlu {a:α} {l:List α} {n:Nat}:jcc (n+1) (a::l)=jcc n l:=rfl
theorem jo2 {n:Nat}:jcc n ([]:List α)=[]:=by cases n<;>rfl
theorem js8:jcx ([]:List α)=0:=rfl
theorem jo3 {a:α} {l:List α}:jcx (a::l)=jcx l+1:=rfl
theorem jo4 {l:List α}:jnn [] l=some l:=rfl
theorem jlv {x a:α} {xs l:List α}:jnn (x::xs) (a::l)=ob (jnn xs l) (fun y=>some (x::y)):=rfl
theorem jia {xs l:List α}:jbr 0 xs l=jnn xs l:=rfl
theorem jdr {a:α} {xs l:List α} {n:Nat}:jbr (n+1) xs (a::l)=ob (jbr n xs l) (fun y=>some (a::y)):=rfl
theorem jo5 {a:Nat}:Nat.beq a a=true:=f11 a
theorem jy5 {a b:Nat}:(Nat.beq a b=true)=(a=b):=jha a b
theorem jy6 {a b:Nat}:(Nat.ble a b=true)=(a<=b):=jvr a b
theorem j63 {x:Od}:pop st fr (.mv x)=ev st fr x:=rfl
theorem jo6 {ps:List (Nat×Nat×Od)}:pop st fr (.build z ps)=ob (fill st fr ps z) (fun cs=>some (.agg cs)):=rfl
theorem js9 {cs:List SV}:fill st fr [] cs=some cs:=rfl
theorem jo7 {off n:Nat} {o:Od} {ps:List (Nat×Nat×Od)} {cs:List SV}:fill st fr ((off,n,o)::ps) cs=ob (ev st fr o) (fun v=>cel v (fun xs=>oif (Nat.beq (jcx xs) n) (ob (jbr off xs cs) (fill st fr ps)) none)):=rfl
theorem jy7 {x:Od}:pop st fr (.not x)=ob (ev st fr x) (fun v=>ji2 v (fun b=>some (.s (.bool (!b))))):=by
 show ob (ev st fr x) (fun v=>ji2 v (fun b=>some (AV.s (.bool (jhs b)))))=_
 congr 1;funext v;congr 1;funext b;cases b<;>rfl
theorem jy8 {x:Od}:pop st fr (.neg x)=ob (ev st fr x) (fun v=>jm1 v (fun k n=>j5f k (-n))):=rfl
theorem jta {off n:Nat} {x:Od}:pop st fr (.fval off n agg x)=ob (ev st fr x) (fun v=>AV.casesOn (motive:=fun _=>Option AV) v (fun _=>none) (fun cs=>ob (jbv n (jcc off cs)) (fun cs=>jfk agg cs)) (fun _=>none) none none):=rfl
theorem jtb {k:IntKind} {x:Od}:pop st fr (.conv k x)=ob (ev st fr x) (fun v=>jm1 v (fun _ n=>qbt k n)):=rfl
theorem jke {f:FuncId} {cs:List Od}:pop st fr (.mkfun f cs)=ob (evs st fr cs) (fun vs=>ob (qeb vs) (fun ps=>some (.s (.func f ps)))):=rfl
theorem jtc:qeb []=some []:=rfl
theorem jo8 {b:Nat} {l:List AV}:qeb (.s (.ptr b o)::l)=ob (qeb l) (fun r=>some ((b,o)::r)):=rfl
theorem jlw:jgr []=[]:=rfl
theorem jje {b:Nat} {l:List (Nat×Nat)}:jgr ((b,o)::l)=.s (.ptr b o)::jgr l:=rfl
theorem jo9 {b:Nat} {f:Nat->Nat->Option β} {g:List SV->Option β}:jfj (.s (.ptr b o)) f g=f b o:=rfl
theorem jtd {cs:List SV} {f:Nat->Nat->Option β} {g:List SV->Option β}:jfj (.s (.cp cs)) f g=g cs:=rfl
theorem jte {b:Nat} {f:Nat->Nat->Option β}:jsg (.s (.ptr b o)) f=f b o:=rfl
noncomputable def jwr (v:AV):Option AV:=jdd v (some (.s (.int .i64 0))) (fun _ _ n _ _ _=>some (.s (.int .i64 (Int.ofNat n)))) (fun rows=>some (.s (.int .i64 (Int.ofNat (jcx rows))))) (some (.s (.int .i64 0)))
theorem jtf:jwr (.s .nilSlice)=some (vi 0):=rfl
theorem jkf:jwr (.s (.lst rows))=some (vi rows.length):=by
 show some (AV.s (.int .i64 (Int.ofNat (jcx rows))))=_
 rw [jbj];rfl
theorem jlx {b n mc sz:Nat} {e:Bool}:jwr (.s (.slice b o n mc e sz))=some (vi n):=rfl
def j64 (n:Int):Option AV:=if -9223372036854775808<=n/\n<=9223372036854775807 then some (vi n) else none
theorem qcs {n:Int} (h1:-9223372036854775808<=n) (h2:n<=9223372036854775807):inR .i64 n=true:=by
 cases n with
 | ofNat m=>exact (jvr m 9223372036854775807).symm▸(by have:(m:Int)<=9223372036854775807:=h2
                                                       omega)
 | negSucc m=>exact (jvr m 9223372036854775807).symm▸(by have:-9223372036854775808<=Int.negSucc m:=h1
                                                         omega)
theorem jpa {n:Int}:j5f .i64 n=j64 n:=by
 unfold j64
 show oif (inR .i64 n) (some (AV.s (.int .i64 n))) none=_
 split
 ·rename_i h;rw [qcs h.1 h.2];rfl
 ·rename_i h
  cases e:inR .i64 n with
  | false=>rfl
  | true =>
   rcases jdp e with ⟨_,a,b⟩ | ⟨e,_⟩ | ⟨e,_⟩
   ·exact absurd ⟨a,b⟩ h
   ·cases e
   ·cases e
theorem jhg {n:Int} (h1:-9223372036854775808<=n) (h2:n<=9223372036854775807):j64 n=some (vi n):=if_pos ⟨h1,h2⟩
def w64 (n:Int):Int:=IntKind.wrap .i64 n
theorem jag {n:Int} (h1:-9223372036854775808<=n) (h2:n<=9223372036854775807):w64 n=n:=jjv (qcs h1 h2)
theorem jy9 {n:Int}:qbr .i64 n=some (vi (w64 n)):=by
 show oif (inR .i64 n) (some (AV.s (.int .i64 n))) (some (AV.s (.int .i64 (IntKind.wrap .i64 n))))=_
 cases e:inR .i64 n with
 | true=>rw [show w64 n=n from jjv e];rfl
 | false=>rfl
variable {a b:Int}
theorem jza:jek .add (.int .i64 a) (.int .i64 b)=some (vi (w64 (a+b))):=by
 rw [←jy9];show qbr .i64 (qea a b)=_;rw [jsl]
theorem jzb:jek .sub (.int .i64 a) (.int .i64 b)=some (vi (w64 (a - b))):=by rw [←jy9];rfl
theorem jzc:jek .mul (.int .i64 a) (.int .i64 b)=some (vi (w64 (a*b))):=by rw [←jy9];rfl
theorem qho:jek .quo (.int .i64 a) (.int .i64 b)=if b=0 then none else j64 (a.tdiv b):=by
 rw [←jpa]
 show oif (ieq b 0) none (j5f .i64 (a.tdiv b))=_
 rw [jau,jc2];simp only [decide_eq_true_eq]
theorem jtg:jek .rem (.int .i64 a) (.int .i64 b)=if b=0 then none else j64 (a.tmod b):=by
 rw [←jpa]
 show oif (ieq b 0) none (j5f .i64 (a.tmod b))=_
 rw [jau,jc2];simp only [decide_eq_true_eq]
theorem j65:jek .eq (.int .i64 a) (.int .i64 b)=some (vb (decide (a=b))):=by
 show some (AV.s (.bool (ieq a b)))=_;rw [jc2]
theorem j66:jek .ne (.int .i64 a) (.int .i64 b)=some (vb (decide (a≠b))):=by
 show some (AV.s (.bool (jhs (ieq a b))))=_;rw [jc2,jgl];congr 3;by_cases h:a=b<;>simp [h]
theorem j67:jek .lt (.int .i64 a) (.int .i64 b)=some (vb (decide (a<b))):=by
 show some (AV.s (.bool (jhs (ile b a))))=_;rw [jdv,jgl];congr 3;by_cases h:a<b<;>simp [h]
 omega
theorem j68:jek .le (.int .i64 a) (.int .i64 b)=some (vb (decide (a<=b))):=by
 show some (AV.s (.bool (ile a b)))=_;rw [jdv]
theorem j69:jek .gt (.int .i64 a) (.int .i64 b)=some (vb (decide (b<a))):=by
 show some (AV.s (.bool (jhs (ile a b))))=_;rw [jdv,jgl];congr 3;by_cases h:b<a<;>simp [h]
 omega
theorem j7a:jek .ge (.int .i64 a) (.int .i64 b)=some (vb (decide (b<=a))):=by
 show some (AV.s (.bool (ile b a)))=_;rw [jdv]
theorem qhp {n:Nat} {k:IntKind} (hn:n<=63):jek .shr (.int .i64 a) (.int k (n:Int))=some (vi (a / 2 ^ n)):=by
 have hs:qbs .i64 n=true:=by
  have hI:jno .i64=true:=rfl
  unfold qbs
  simp [jau,jvr,hn,hI]
 have e:jek .shr (.int .i64 a) (.int k (n:Int))=jvs .shr .i64 a (n:Int):=by
  show oif (Nat.beq (ikn .i64) (ikn k)) (jvs .shr .i64 a n) (oif true (jvs .shr .i64 a n) none)=_
  cases Nat.beq (ikn .i64) (ikn k)<;>rfl
 rw [e]
 cases a with
 | ofNat m =>
  show oif (qbs .i64 n) (some (AV.s (.int .i64 (Int.ofNat (Nat.div m (Nat.pow 2 n)))))) none=_
  rw [hs]
  have:Int.ofNat (Nat.div m (Nat.pow 2 n))=Int.ofNat m / 2 ^ n:=by
   show ((m / 2 ^ n:Nat):Int)=(m:Int) / 2 ^ n
   rw [Int.natCast_ediv,f3b];rfl
  rw [this];rfl
 | negSucc m =>
  show oif (qbs .i64 n) (some (AV.s (.int .i64 (Int.negSucc (Nat.div m (Nat.pow 2 n)))))) none=_
  rw [hs]
  have:Int.negSucc (Nat.div m (Nat.pow 2 n))=Int.negSucc m / 2 ^ n:=by
   obtain ⟨q,hq⟩:∃ q,2 ^ n=q+1:=⟨2 ^ n - 1,by have:=Nat.two_pow_pos n;omega⟩
   have h2:(2:Int) ^ n=((q+1:Nat):Int):=by rw [←hq,f3b];rfl
   have h3:Nat.pow 2 n=q+1:=hq
   rw [h2,h3];rfl
  rw [this];rfl
theorem jhh (h1:-9223372036854775808<=a) (h2:a<=9223372036854775807):jek .and (.int .i64 a) (.int .i64 1)=some (vi (a % 2)):=by
 have hr:=qcs h1 h2
 cases a with
 | ofNat m =>
  show oif (inR .i64 (.ofNat m)) (some (AV.s (.int .i64 (.ofNat (Nat.land m 1))))) none=_
  rw [hr]
  have:Int.ofNat (Nat.land m 1)=Int.ofNat m % 2:=by
   rw [show Nat.land m 1=m % 2 from f2d m];rfl
  rw [this];rfl
 | negSucc m =>
  show oif (inR .i64 (.negSucc m)) (some (AV.s (.int .i64 (.ofNat (Nat.xor 1 (Nat.land 1 m)))))) none=_
  rw [hr]
  have:Int.ofNat (Nat.xor 1 (Nat.land 1 m))=Int.negSucc m % 2:=by
   have e:Nat.land 1 m=m % 2:=(Nat.and_comm 1 m).trans (f2d m)
   rw [e]
   rcases Nat.mod_two_eq_zero_or_one m with h | h
   ·rw [h];show (1:Int)=_;omega
   ·rw [h];show (0:Int)=_;omega
  rw [this];rfl
theorem qhq (h1:-9223372036854775808<=a) (h2:a<=9223372036854775807):jek .or (.int .i64 a) (.int .i64 1)=some (vi (a+(1 - a % 2))):=by
 have hr:=qcs h1 h2
 cases a with
 | ofNat m =>
  show oif (inR .i64 (.ofNat m)) (some (AV.s (.int .i64 (.ofNat (Nat.lor m 1))))) none=_
  rw [hr]
  have:Int.ofNat (Nat.lor m 1)=Int.ofNat m+(1 - Int.ofNat m % 2):=by
   have e:m ||| 1=m+(1 - m % 2):=by
    have h1:(m ||| 1) / 2=m / 2:=by rw [Nat.or_div_two];simp
    have h2:(m ||| 1) % 2=1:=by rw [Nat.or_mod_two_eq_one];simp
    omega
   show ((m ||| 1:Nat):Int)=(m:Int)+(1 - (m:Int) % 2)
   rw [e];omega
  rw [this];rfl
 | negSucc m =>
  show oif (inR .i64 (.negSucc m)) (some (AV.s (.int .i64 (.negSucc (Nat.xor m (Nat.land m 1)))))) none=_
  rw [hr]
  have:Int.negSucc (Nat.xor m (Nat.land m 1))=Int.negSucc m+(1 - Int.negSucc m % 2):=by
   have e:m ^^^ (m &&& 1)=m - m % 2:=by
    have h1:(m ^^^ (m &&& 1)) / 2=m / 2:=by rw [Nat.xor_div_two,Nat.and_div_two];simp
    have h2:¬ (m ^^^ (m &&& 1)) % 2=1:=by
     have e:m &&& 1=m % 2:=f2d m
     rw [e,Nat.xor_mod_two_eq_one];omega
    omega
   show Int.negSucc (m ^^^ (m &&& 1))=_
   rw [e];omega
  rw [this];rfl
end
structure Ok (h:Hp):Prop where
 hid:h.hid=[]
 lo:h.lo=0
 pos:1<=h.next
theorem je1 {a b:Nat} (h:a<=b):Nat.ble a b=true:=by rw [jvr];exact h
theorem jde:Ok h0:=⟨rfl,rfl,f0f 1⟩
section
variable {h:Hp} {F:Fns} {st fr:List AV} {Q:Ex->St->Prop} {β:Type}
theorem jab {x:AB} (k:Ok h):Ok (h.push x):=⟨k.hid,k.lo,f18 k.pos⟩
theorem jad {b:Nat} {x:Option AB} (k:Ok h):Ok (h.put b x):=⟨by rw [Hp.hid_put];exact k.hid,by rw [Hp.lo_put];exact k.lo,by rw [Hp.next_put];exact k.pos⟩
theorem jax {x:AB} {n:Nat} (k:Ok h):(h.push x).get n=if n=h.next then some x else h.get n:=by
 rw [Hp.get_eq,Hp.get_eq,Hp.hid_push,k.hid]
 have e:jat [] n=false:=rfl
 rw [e]
 show (h.tr.put (Nat.succ h.next) h.next (some x)).get n=_
 split
 ·rename_i hn;subst hn;exact jbw _ _ _ _ k.pos (jme _)
 ·rename_i hn;exact jb2 _ _ _ _ n k.pos (jme _) hn
theorem jal {b n:Nat} {x:Option AB} (k:Ok h) (hb:1<=b):(h.put b x).get n=if n=b then x else h.get n:=by
 rw [Hp.get_eq,Hp.get_eq,Hp.hid_put,k.hid,Hp.tr_put]
 have e:jat [] n=false:=rfl
 rw [e]
 show (h.tr.put (Nat.succ b) b x).get n=_
 split
 ·rename_i hn;subst hn;exact jbw _ _ _ _ hb (jme _)
 ·rename_i hn;exact jb2 _ _ _ _ n hb (jme _) hn
noncomputable def Hp.hide (h:Hp) (lo:Nat) (hid:List (Nat×Nat)):Hp:=.mk h.next h.tr lo hid
theorem jaa {n:Nat}:jat [] n=false:=by cases n<;>rfl
theorem jjf {a b n:Nat} {l:List (Nat×Nat)}:jat ((a,b)::l) n=if a<=n/\n<b then true else jat l n:=by
 show oif (Nat.ble a n) (oif (Nat.ble (n+1) b) true (jat l n)) (jat l n)=_
 simp only [jau,jvr]
 by_cases h1:a<=n
 ·by_cases h2:n+1<=b
  ·rw [if_pos h1,if_pos h2,if_pos ⟨h1,h2⟩]
  ·rw [if_pos h1,if_neg h2,if_neg (fun h=>h2 h.2)]
 ·rw [if_neg h1,if_neg (fun h=>h1 h.1)]
theorem jdz {n:Nat} {hid:List (Nat×Nat)} (k:Ok h):(h.hide lo hid).get n=if jat hid n=true then none else h.get n:=by
 rw [Hp.get_eq,Hp.get_eq,k.hid];rfl
theorem jzd {cs:List SV} {ty:TypeId} {f:Nat->Hp->Option β} (k:Ok h):nw h cs ty f=f h.next (h.push (.arr cs ty)):=by
 cases h with
 | mk n t lo hid =>
  obtain rfl:hid=[]:=k.hid
  rfl
noncomputable def rdB (x:Option AB) (off n:Nat):Option (List SV):=ob x (fun x=>AB.casesOn (motive:=fun _=>Option (List SV)) x (fun cs _=>jbv n (jcc off cs)) (fun _ _=>none))
theorem jgn {cs:List SV} {ty:TypeId} {off n:Nat}:rdB (some (.arr cs ty)) off n=jbv n (jcc off cs):=rfl
noncomputable def wrB (h:Hp) (b:Nat) (x:Option AB) (off:Nat) (xs:List SV):Option Hp:=ob x (fun x=>AB.casesOn (motive:=fun _=>Option Hp) x (fun cs ty=>ob (jbr off xs cs) (fun cs'=>some (h.put b (some (.arr cs' ty))))) (fun _ _=>none))
theorem qoe {b off:Nat} (k:Ok h):wr h b off xs=wrB h b (h.get b) off xs:=by
 show oif (Nat.ble h.lo b) _ none=_
 rw [k.lo];rfl
theorem jpb {b:Nat} {cs:List SV} {ty:TypeId} {off:Nat}:wrB h b (some (.arr cs ty)) off xs=ob (jbr off xs cs) (fun cs'=>some (h.put b (some (.arr cs' ty)))):=rfl
noncomputable def jmw (h:Hp) (n:Nat) (agg:Bool) (v:AV):Option AV:=jfj v (fun b off=>ob (rd h b off n) (fun cs=>jfk agg cs)) (fun cs=>ob (jbv n cs) (fun cs=>jfk agg cs))
theorem qhr {α γ:Type} {x:Option α} {f:α->Option β} {g:β->Option γ}:ob (ob x f) g=ob x (fun a=>ob (f a) g):=by cases x<;>rfl
theorem j1v {n:Nat} {x:Od}:jef st fr h (.load n agg x)=ob (ev st fr x) (fun v=>ob (jmw h n agg v) (fun v=>ok v h)):=by
 show ob (ev st fr x) (fun v=>jfj v (fun b off=>ob (rd h b off n) (fun cs=>ob (jfk agg cs) (fun v=>ok v h))) (fun cs=>ob (jbv n cs) (fun cs=>ob (jfk agg cs) (fun v=>ok v h))))=_
 congr 1
 funext v
 cases v with
 | s v=>cases v<;>first | rfl | (show ob _ _=ob (ob _ _) _;rw [qhr])
 | _=>rfl
noncomputable def j7b (h:Hp) (n:Nat) (p v:AV):R:=jsg p (fun b off=>cel v (fun cs=>oif (Nat.beq (jcx cs) n) (ob (wr h b off cs) (fun h=>ok .undef h)) none))
theorem qct {b:Nat} {v:SV} (k:Ok h):j7b h 1 (.s (.ptr b o)) (.s v)=ob (wrB h b (h.get b) o [v]) (fun h=>ok .undef h):=by
 show ob (wr h b o [v]) _=_
 rw [qoe k]
theorem j4n {n b:Nat} {cs:List SV} (k:Ok h) (hn:cs.length=n):j7b h n (.s (.ptr b o)) (.agg cs)=ob (wrB h b (h.get b) o cs) (fun h=>ok .undef h):=by
 show oif (Nat.beq (jcx cs) n) (ob (wr h b o cs) _) none=_
 rw [qoe k,jbj,hn,f11];rfl
theorem jhi {e:TypeId} (k:Ok h):jef st fr h (.new e z)=some (.s (.ptr h.next 0),h.push (.arr z e)):=by
 show nw h z e (fun n h=>ok (.s (.ptr n 0)) h)=_
 rw [jzd k];rfl
theorem qhs {e:TypeId} {x:Od} (k:Ok h):jef st fr h (.box e x)=ob (ev st fr x) (fun v=>cel v (fun cs=>some (.s (.ptr h.next 0),h.push (.arr cs e)))):=by
 show ob (ev st fr x) (fun v=>cel v (fun cs=>nw h cs e (fun n h=>ok (.s (.ptr n 0)) h)))=_
 congr 1;funext v;congr 1;funext cs;rw [jzd k];rfl
theorem j4o {e:TypeId} {size:Nat} {len:Nat} {ps:List (Nat×Nat×Od)} (k:Ok h):jef st fr h (.bslice e size z len ps)=ob (fill st fr ps z) (fun cs=>some (.s (.slice h.next 0 len len true size),h.push (.arr cs e))):=by
 show ob (fill st fr ps z) (fun cs=>nw h cs e (fun n h=>ok (.s (.slice n 0 len len true size)) h))=_
 congr 1;funext cs;rw [jzd k];rfl
noncomputable def qof (h:Hp) (e:TypeId) (size bytes:Nat) (z:List SV) (l c:AV):R:=qee l (fun m=>qee c (fun k=>oif (Nat.ble m k) (oif (Nat.ble (Nat.mul bytes k) 1000000000) (oif (Nat.ble k 1000000000) (nw h (rep z k) e (fun b h=>ok (.s (.slice b 0 m k true size)) h)) none) none) none))
theorem jze {e:TypeId} {size:Nat} {m:Nat} (k:Ok h) (h1:bytes*m<=1000000000) (h2:m<=1000000000):qof h e size bytes z (vi m) (vi m)=some (.s (.slice h.next 0 m m true size),h.push (.arr (rep z m) e)):=by
 show oif (Nat.ble m m) (oif (Nat.ble (Nat.mul bytes m) 1000000000) (oif (Nat.ble m 1000000000) (nw h (rep z m) e _) none) none) none=_
 rw [jzd k,je1 (f0f m),je1 h2,show Nat.ble (Nat.mul bytes m) 1000000000=true from je1 h1];rfl
noncomputable def jye (size:Nat) (v w:AV):Option AV:=jdd v none (fun b off len _ _ _=>ji3 w len (fun m=>some (.s (.ptr b (Nat.add off (Nat.mul m size))))))
 (fun rows=>ji3 w (jcx rows) (fun m=>ob (jej rows m) (fun row=>oif (Nat.beq (jcx row) size) (some (.s (.cp row))) none))) none
theorem jib {m n:Nat} {f:Nat->Option β} (hm:m<n):ji3 (vi (m:Int)) n f=f m:=by
 show oif (Nat.ble (Nat.succ m) n) (f m) none=_
 rw [je1 (show Nat.succ m<=n from hm)];rfl
theorem jbi {size b off len mc sz m:Nat} {ex:Bool} (hm:m<len):jye size (.s (.slice b off len mc ex sz)) (vi (m:Int))=some (.s (.ptr b (off+m*size))):=jib (f:=fun m=>some (AV.s (.ptr b (Nat.add off (Nat.mul m size))))) hm
theorem jco {size b off len mc sz:Nat} {ex:Bool} (hm:0<len):jye size (.s (.slice b off len mc ex sz)) (vi 0)=some (.s (.ptr b off)):=by
 have:=jib (f:=fun m=>some (AV.s (.ptr b (Nat.add off (Nat.mul m size))))) hm
 refine this.trans ?_
 show some (AV.s (.ptr b (off+0*size)))=_
 rw [f2f,f0s]
theorem j1w {size m:Nat} (hr:rows[m]?=some row) (hl:row.length=size):jye size (.s (.lst rows)) (vi (m:Int))=some (.s (.cp row)):=by
 have hm:m<rows.length:=by
  rcases f0l m rows.length with h | h
  ·exact h
  ·rw [f0x h] at hr;cases hr
 have:=jib (f:=fun m=>ob (jej rows m) (fun row=>oif (Nat.beq (jcx row) size) (some (AV.s (.cp row))) none)) (show m<jcx rows by rw [jbj];exact hm)
 refine this.trans ?_
 rw [jcj,hr]
 show oif (Nat.beq (jcx row) size) _ none=_
 rw [jbj,hl,f11];rfl
noncomputable def qet (n size:Nat) (v w:AV):Option AV:=jfj v (fun b off=>ji3 w n (fun m=>some (.s (.ptr b (Nat.add off (Nat.mul m size)))))) (fun cs=>ji3 w n (fun m=>some (.s (.cp (jcc (Nat.mul m size) cs)))))
theorem jcw {n size b off m:Nat} (hm:m<n):qet n size (.s (.ptr b off)) (vi (m:Int))=some (.s (.ptr b (off+m*size))):=jib (f:=fun m=>some (AV.s (.ptr b (Nat.add off (Nat.mul m size))))) hm
theorem jfs {n size m:Nat} {cs:List SV} (hm:m<n):qet n size (.s (.cp cs)) (vi (m:Int))=some (.s (.cp (jcc (m*size) cs))):=jib (f:=fun m=>some (AV.s (.cp (jcc (Nat.mul m size) cs)))) hm
noncomputable def qt0 (h:Hp) (e:TypeId) (size bytes b n m:Nat) (x:Option AB) (new:List SV):R :=
 jkw bytes (Nat.add n m) (ob x (fun x=>AB.casesOn (motive:=fun _=>R) x (fun cs ty =>
  ob (jbv (Nat.mul n size) (jcc 0 cs)) (fun old=>(oif (Nat.ble h.lo b) (oif (Nat.beq ty e) (nw (h.put b none) (jgq old new) e (fun k h=>ok (.s (.slice k 0 (Nat.add n m) (Nat.add n m) false size)) h)) none) none))) (fun _ _=>none)))
noncomputable def jmp (h:Hp) (e:TypeId) (size bytes:Nat) (v w:AV):R:=jdd w (qbo v (ok v h)) (fun b' off' m _ _ _=>ob (rd h b' off' (Nat.mul m size)) (fun new=>j30 h e size bytes m v new))
 (fun rows=>ob (j01 size rows) (fun new=>j30 h e size bytes (jcx rows) v new)) (qbo v (ok v h))
theorem jqw {e:TypeId} {size b n mc sz:Nat} {ex:Bool}:jmp h e size bytes (.s (.slice b o n mc ex sz)) (.s .nilSlice)=some (.s (.slice b o n mc ex sz),h):=rfl
theorem jqx {e:TypeId} {size m:Nat}:jmp h e size bytes (.s .nilSlice) (.s (.slice b' o' m mc' ex' sz'))=ob (rdB (h.get b') o' (m*size)) (fun new=>Nat.casesOn (motive:=fun _=>R) m (some (.s .nilSlice,h)) (fun _=>jkw bytes m (nw h new e (fun k h=>ok (.s (.slice k 0 m m false size)) h)))):=rfl
theorem jth {n:Nat} {x:R} (h1:n*bytes<=1000000000) (h2:n<=1000000000):jkw bytes n x=x:=by
 show oif (Nat.ble (Nat.mul n bytes) 1000000000) (oif (Nat.ble n 1000000000) x none) none=_
 rw [show Nat.ble (Nat.mul n bytes) 1000000000=true from je1 h1,je1 h2];rfl
theorem jmx {e:TypeId} {size b n m:Nat} (hm:1<=m):jmp h e size bytes (.s (.slice b 0 n n false size)) (.s (.slice b' o' m mc' ex' sz'))=ob (rdB (h.get b') o' (m*size)) (fun new=>qt0 h e size bytes b n m (h.get b) new):=by
 show ob (rdB (h.get b') o' (m*size)) (fun new=>oif (Nat.beq size size) (oif (Nat.ble (Nat.add n m) n) _ (jkw bytes (Nat.add n m) (ji4 h e size b 0 n m false new))) none)=_
 congr 1
 funext new
 have e1:Nat.ble (Nat.add n m) n=false:=by
  cases e:Nat.ble (Nat.add n m) n with
  | false=>rfl
  | true=>rw [jvr] at e;have:n+m<=n:=e;omega
 rw [f11]
 show oif (Nat.ble (Nat.add n m) n) _ _=_
 rw [e1]
 rfl
theorem qht {e:TypeId} {size b n m:Nat} {cs new:List SV} (k:Ok h) (hc:cs.length=n*size) (h1:(n+m)*bytes<=1000000000) (h2:n+m<=1000000000) :
 qt0 h e size bytes b n m (some (.arr cs e)) new=some (.s (.slice h.next 0 (n+m) (n+m) false size),(h.put b none).push (.arr (cs++new) e)):=by
 show jkw bytes (n+m) (ob (jbv (n*size) cs) (fun old=>oif (Nat.ble h.lo b) (oif (Nat.beq e e) (nw (h.put b none) (jgq old new) e _) none) none))=_
 rw [jth h1 h2,(jbb _).2 ⟨f2s hc.symm,rfl⟩,←hc,f19]
 show oif (Nat.ble h.lo b) (oif (Nat.beq e e) (nw (h.put b none) (jgq cs new) e _) none) none=_
 rw [k.lo,f11,jzd (jad k),jc1,Hp.next_put]
 rfl
noncomputable def qum (v:AV):Option (Bool×List SV):=AV.casesOn (motive:=fun _=>Option (Bool×List SV)) v (fun s=>some (false,[s])) (fun l=>some (true,l)) (fun _=>none) none none
theorem jly:jgu fr h []=some []:=rfl
theorem jft {r:IR} {l:List IR}:jgu fr h (r::l)=ob (jmu fr h r) (fun v=>ob (jgu fr h l) (fun x=>some (v::x))):=rfl
theorem jlz:jci (.mk fr h) []=some (.tup [],h):=rfl
theorem j4p {r:IR}:jci (.mk fr h) [r]=ob (jmu fr h r) (fun p=>ob (jfk p.1 p.2) (fun v=>some (v,h))):=by
 show ob (ob (jmu fr h r) (fun v=>ob (some []) (fun x=>some (v::x)))) (fun vs=>List.casesOn (motive:=fun _=>R) vs (ok (.tup []) h) (fun p r=>List.casesOn (motive:=fun _=>R) r (ob (jfk p.1 p.2) (fun v=>ok v h)) (fun _ _=>ok (.tup vs) h)))=_
 cases jmu fr h r<;>rfl
theorem j4q {r r':IR} {l:List IR}:jci (.mk fr h) (r::r'::l)=ob (jgu fr h (r::r'::l)) (fun vs=>some (.tup vs,h)):=by
 show ob (jgu fr h (r::r'::l)) (fun vs=>List.casesOn (motive:=fun _=>R) vs (ok (.tup []) h) (fun p r=>List.casesOn (motive:=fun _=>R) r (ob (jfk p.1 p.2) (fun v=>ok v h)) (fun _ _=>ok (.tup vs) h)))=_
 rw [jft,jft]
 cases jmu fr h r with
 | none=>rfl
 | some a=>cases jmu fr h r' with
  | none=>rfl
  | some b=>cases jgu fr h l<;>rfl
theorem qhu {v:AV}:ok v h=some (v,h):=rfl
theorem jzf {es:List Ent} {hid:List (Nat×Nat)}:sel es [] hid=some hid:=rfl
theorem jti {es:List Ent} {hid:List (Nat×Nat)}:sel es (j::js) hid=ob (jej es j) (fun e=>ob (sel es js hid) (fun l=>Ent.casesOn (motive:=fun _=>Option (List (Nat×Nat))) e (fun iv _=>some (iv++l)))):=by
 show ob (jej es j) (fun e=>ob (sel es js hid) (fun l=>Ent.casesOn (motive:=fun _=>Option (List (Nat×Nat))) e (fun iv _=>some (jgq iv l))))=_
 simp only [jc1]
def fpV:AV->List Nat
 | .s (.ptr b _)=>[b]
 | _=>[]
theorem jzg {b:Nat}:fpV (.s (.ptr b o))=[b]:=rfl
theorem j7c {cs:List SV}:fpV (.s (.cp cs))=[]:=rfl
theorem jws {es:List Ent} {dst:Option Nat} {n:Nat} {x:Od} {l:List (IOper×Option (List Nat))}:WD F ((.mk dst (.a (.load n agg x)) none,some js)::l) st es fr h Q=obP (sel es js h.hid) (fun hid'=>obP (ev st fr x) (fun p=>obP (jmw (h.hide h.next hid') n agg p) (fun v=>WD F l (v::st) (.mk [] (some (fpV p))::es) (jch fr dst v) h Q))):=by
 cases h with
 | mk k t lo hid =>
 rw [jy1 (x:=ob (sel es js hid) (fun hid'=>ob (ev st fr x) (fun p=>ob (jmw (.mk k t k hid') n agg p) (fun v=>some (DR.mk v (.mk k t lo hid) (.mk [] (some (fpV p)))))))) (fun cl=>?_)]
 ·refine propext ⟨fun ⟨p,h1,h2⟩=>?_,fun ⟨hid',h0,q,h1,v,h2,h3⟩=>⟨.mk v (.mk k t lo hid) (.mk [] (some (fpV q))),jac.2 ⟨hid',h0,jac.2 ⟨q,h1,jac.2 ⟨v,h2,rfl⟩⟩⟩,h3⟩⟩
  obtain ⟨hid',h3,h4⟩:=jac.1 h1
  obtain ⟨q,h5,h6⟩:=jac.1 h4
  obtain ⟨v,h7,h8⟩:=jac.1 h6
  cases h8
  exact ⟨hid',h3,q,h5,v,h7,h2⟩
 ·show jmc cl st fr es (.mk k t lo hid) (.a (.load n agg x)) js=_
  show ob (sel es js hid) (fun hid'=>Cls.casesOn (motive:=fun _=>Option DR) (jvq (ob (ev st fr x) (fun v=>jfj v (fun b _=>some (Cls.load b)) (fun _=>some .quiet))) (fun c=>c))
   (jkx cl st fr k t lo k hid hid' (.a (.load n agg x)) (fun n'=>.mk [(k,n')] (some [])))
   (fun x'=>jkx cl st fr k t lo k hid hid' (.a (.load n agg x)) (fun _=>.mk [] (some [x'])))
   (fun b=>oif (jgt es js b) (oif (Nat.ble lo b) (ob (Hp.get (.mk k t lo hid') b) (fun _=>jkx cl st fr k t lo lo hid hid' (.a (.load n agg x)) (fun n'=>.mk [(b,Nat.succ b),(k,n')] none))) none) none)
   (jkx cl st fr k t lo k hid hid' (.a (.load n agg x)) (fun _=>.mk [] (some [])))
   (jkx cl st fr k t lo k hid hid' (.a (.load n agg x)) (fun n'=>.mk [(k,n')] none)))=_
  congr 1
  funext hid'
  have key:∀ e:Nat->Ent,jkx cl st fr k t lo k hid hid' (.a (.load n agg x)) e=ob (ev st fr x) (fun p=>ob (jmw (.mk k t k hid') n agg p) (fun v=>some (DR.mk v (.mk k t lo hid) (e k)))):=fun e=>by
   show ob (aop cl st fr (.mk k t k hid') (.load n agg x)) _=_
   rw [jjb (show AO.calls (.load n agg x)=false from rfl),j1v]
   cases ev st fr x with
   | none=>rfl
   | some p =>
    show ob (ob (jmw (.mk k t k hid') n agg p) _) _=ob (jmw (.mk k t k hid') n agg p) _
    cases jmw (.mk k t k hid') n agg p<;>rfl
  have k1:=key (fun n'=>.mk [(k,n')] none)
  have k3:=key (fun _=>.mk [] (some []))
  have k2:=fun b=>key (fun _=>.mk [] (some [b]))
  cases hx:ev st fr x with
  | none =>
   rw [hx] at k1
   exact k1
  | some p =>
   rw [hx] at k1 k3
   simp only [hx] at k2
   cases p with
   | s p =>
    cases p with
    | ptr b o=>exact k2 b
    | cp cs=>exact k3
    | _=>exact k1
   | _=>exact k1
theorem jqy {es:List Ent} {dst:Option Nat} {e:TypeId} {size:Nat} {len:Nat} {ps:List (Nat×Nat×Od)} {l:List (IOper×Option (List Nat))}:WD F ((.mk dst (.a (.bslice e size z len ps)) none,some js)::l) st es fr h Q=obP (sel es js h.hid) (fun hid'=>obP (fill st fr ps z) (fun cs=>jat hid' h.next=false/\WD F l (.s (.slice h.next 0 len len true size)::st) (.mk [(h.next,h.next+1)] (some [])::es) (jch fr dst (.s (.slice h.next 0 len len true size))) (h.push (.arr cs e)) Q)):=by
 cases h with
 | mk k t lo hid =>
 rw [jy1 (x:=ob (sel es js hid) (fun hid'=>ob (fill st fr ps z) (fun cs=>oif (jat hid' k) none (some (DR.mk (.s (.slice k 0 len len true size)) ((Hp.mk k t lo hid).push (.arr cs e)) (.mk [(k,k+1)] (some []))))))) (fun cl=>?_)]
 ·refine propext ⟨fun ⟨p,h1,h2⟩=>?_,fun ⟨hid',h0,cs,h1,h2,h3⟩=>⟨DR.mk (.s (.slice k 0 len len true size)) ((Hp.mk k t lo hid).push (.arr cs e)) (.mk [(k,k+1)] (some [])),jac.2 ⟨hid',h0,jac.2 ⟨cs,h1,?_⟩⟩,h3⟩⟩
  ·obtain ⟨hid',h3,h4⟩:=jac.1 h1
   obtain ⟨cs,h5,h6⟩:=jac.1 h4
   rw [jau] at h6
   split at h6
   ·cases h6
   ·rename_i h7
    cases h6
    exact ⟨hid',h3,cs,h5,Bool.eq_false_iff.2 h7,h2⟩
  ·have h2':jat hid' k=false:=h2
   rw [h2'];rfl
 ·show jmc cl st fr es (.mk k t lo hid) (.a (.bslice e size z len ps)) js=_
  show ob (sel es js hid) (fun hid'=>ob (ob (fill st fr ps z) (fun cs=>oif (jat hid' k) none (ok (.s (.slice k 0 len len true size)) (Hp.mk (Nat.succ k) (t.put (Nat.succ k) k (some (.arr cs e))) k hid')))) (fun p=>Hp.casesOn (motive:=fun _=>Option DR) p.2 (fun n' t' _ _=>some (.mk p.1 (.mk n' t' lo hid) (.mk [(k,n')] (some []))))))=_
  congr 1
  funext hid'
  cases fill st fr ps z with
  | none=>rfl
  | some cs =>
   show ob (oif (jat hid' k) none _) _=oif (jat hid' k) none _
   cases jat hid' k<;>rfl
end
section
variable {F:Fns} {s:St} {st fr:List AV} {h h':Hp} {Q:Ex->St->Prop} {l:List IOper} {dst:Option Nat} {v w:AV} {m:List (IOper×Option (List Nat))} {es:List Ent}
def zpO (F:Fns) (x:Option AV) (dst:Option Nat) (l:List IOper) (st fr:List AV) (h:Hp) (Q:Ex->St->Prop):Prop:=obP x (fun v=>WO F l (v::st) (jch fr dst v) h Q)
theorem jtj:zpO F (some v) dst l st fr h Q=WO F l (v::st) (jch fr dst v) h Q:=jb4
def zmO (F:Fns) (x:R) (dst:Option Nat) (l:List IOper) (st fr:List AV) (Q:Ex->St->Prop):Prop:=obP x (fun p=>WO F l (p.1::st) (jch fr dst p.1) p.2 Q)
theorem jtk:zmO F (some (v,h)) dst l st fr Q=WO F l (v::st) (jch fr dst v) h Q:=jb4
def qhv (F:Fns) (dst:Option Nat) (l:List IOper) (st fr:List AV) (Q:Ex->St->Prop) (v:AV) (h:Hp):Prop:=WO F l (v::st) (jch fr dst v) h Q
theorem jtl:qhv F dst l st fr Q v h=WO F l (v::st) (jch fr dst v) h Q:=rfl
def zkO (F:Fns) (x:Option (List AV)) (f:FuncId) (dst:Option Nat) (l:List IOper) (st fr:List AV) (h:Hp) (Q:Ex->St->Prop):Prop:=obP x (fun vs=>WC F f vs h (qhv F dst l st fr Q))
theorem jtm {f:FuncId}:zkO F (some vs) f dst l st fr h Q=WC F f vs h (qhv F dst l st fr Q):=jb4
def zgO (F:Fns) (x:Option AV) (t:Bool) (dst:Option Nat) (op:IOp) (l:List IOper) (st fr:List AV) (h:Hp) (Q:Ex->St->Prop):Prop:=gP x t (WO F (.mk dst op none::l) st fr h Q) (WO F l (.undef::st) (jch fr dst .undef) h Q)
theorem jtn {b:Bool} {op:IOp}:zgO F (some (.s (.bool b))) t dst op l st fr h Q=if b=t then WO F (.mk dst op none::l) st fr h Q else WO F l (.undef::st) (jch fr dst .undef) h Q:=j6y
theorem jpc {op:IOp}:zgO F (some .undef) t dst op l st fr h Q=WO F l (.undef::st) (jch fr dst .undef) h Q:=j1u
def zcO (F:Fns) (x:Option AV) (a b:IC) (fr:List AV) (h:Hp) (Q:Ex->St->Prop):Prop:=qrz x (W F a (.mk fr h) Q) (W F b (.mk fr h) Q)
theorem jto {b:Bool} {x y:IC}:zcO F (some (.s (.bool b))) x y fr h Q=if b=true then W F x (.mk fr h) Q else W F y (.mk fr h) Q:=j6t
theorem jzh {c:Od} {x y:IC}:W F (.cond c x y) (.mk fr h) Q=zcO F (ev [] fr c) x y fr h Q:=qoc
theorem jzi {o:PO}:WO F (.mk dst (.p o) none::l) st fr h Q=zpO F (pop st fr o) dst l st fr h Q:=qhi
theorem jzj {f:FuncId} {as:List Od}:WO F (.mk dst (.a (.call f as)) none::l) st fr h Q=zkO F (evs st fr as) f dst l st fr h Q:=qhj
theorem jtp {op:IOp}:WO F (.mk dst op (some (i,t))::l) st fr h Q=zgO F (jej st i) t dst op l st fr h Q:=qcn
theorem j1x {x:Od} {as:List Od} {f:FuncId} {caps:List (Nat×Nat)} (hx:ev st fr x=some (.s (.func f caps))):WO F (.mk dst (.a (.callv x as)) none::l) st fr h Q=zkO F (ob (evs st fr as) (fun vs=>some (vs++jgr caps))) f dst l st fr h Q:=by
 rw [qcm]
 refine propext ⟨fun ⟨g,cs,h1,vs,h2,h3⟩=>?_,fun ⟨vs,h1,h2⟩=>?_⟩
 ·rw [hx] at h1;cases h1
  exact ⟨_,jac.2 ⟨vs,h2,rfl⟩,h3⟩
 ·obtain ⟨us,h3,h4⟩:=jac.1 h1
  cases h4
  exact ⟨f,caps,hx,us,h3,h2⟩
def zpD (F:Fns) (x:Option AV) (e:Ent) (dst:Option Nat) (m:List (IOper×Option (List Nat))) (st:List AV) (es:List Ent) (fr:List AV) (h:Hp) (Q:Ex->St->Prop):Prop:=obP x (fun v=>WD F m (v::st) (e::es) (jch fr dst v) h Q)
theorem jtq {e:Ent}:zpD F (some v) e dst m st es fr h Q=WD F m (v::st) (e::es) (jch fr dst v) h Q:=jb4
def zmD (F:Fns) (x:R) (dst:Option Nat) (m:List (IOper×Option (List Nat))) (st:List AV) (es:List Ent) (fr:List AV) (Q:Ex->St->Prop):Prop:=obP x (fun p=>WD F m (p.1::st) (.mk [] (some [])::es) (jch fr dst p.1) p.2 Q)
theorem jtr:zmD F (some (v,h)) dst m st es fr Q=WD F m (v::st) (.mk [] (some [])::es) (jch fr dst v) h Q:=jb4
def qhw (F:Fns) (dst:Option Nat) (m:List (IOper×Option (List Nat))) (st:List AV) (es:List Ent) (fr:List AV) (Q:Ex->St->Prop) (v:AV) (h:Hp):Prop:=WD F m (v::st) (.mk [] (some [])::es) (jch fr dst v) h Q
theorem jts:qhw F dst m st es fr Q v h=WD F m (v::st) (.mk [] (some [])::es) (jch fr dst v) h Q:=rfl
def zkD (F:Fns) (x:Option (List AV)) (f:FuncId) (dst:Option Nat) (m:List (IOper×Option (List Nat))) (st:List AV) (es:List Ent) (fr:List AV) (h:Hp) (Q:Ex->St->Prop):Prop:=obP x (fun vs=>WC F f vs h (qhw F dst m st es fr Q))
theorem jtt {f:FuncId}:zkD F (some vs) f dst m st es fr h Q=WC F f vs h (qhw F dst m st es fr Q):=jb4
def zgD (F:Fns) (x:Option AV) (t:Bool) (dst:Option Nat) (op:IOp) (o:Option (List Nat)) (m:List (IOper×Option (List Nat))) (st:List AV) (es:List Ent) (fr:List AV) (h:Hp) (Q:Ex->St->Prop):Prop:=gP x t (WD F ((.mk dst op none,o)::m) st es fr h Q) (WD F m (.undef::st) (.mk [] (some [])::es) (jch fr dst .undef) h Q)
theorem jtu {b:Bool} {op:IOp} {o:Option (List Nat)}:zgD F (some (.s (.bool b))) t dst op o m st es fr h Q=if b=t then WD F ((.mk dst op none,o)::m) st es fr h Q else WD F m (.undef::st) (.mk [] (some [])::es) (jch fr dst .undef) h Q:=j6y
theorem jpd {op:IOp} {o:Option (List Nat)}:zgD F (some .undef) t dst op o m st es fr h Q=WD F m (.undef::st) (.mk [] (some [])::es) (jch fr dst .undef) h Q:=j1u
theorem jzk {o:PO}:WD F ((.mk dst (.p o) none,none)::m) st es fr h Q=zpD F (pop st fr o) (.mk [] (some [])) dst m st es fr h Q:=qhk
theorem jzl {f:FuncId} {as:List Od}:WD F ((.mk dst (.a (.call f as)) none,none)::m) st es fr h Q=zkD F (evs st fr as) f dst m st es fr h Q:=qhl
theorem jtv {op:IOp} {o:Option (List Nat)}:WD F ((.mk dst op (some (i,t)),o)::m) st es fr h Q=zgD F (jej st i) t dst op o m st es fr h Q:=qco
def qt1 (F:Fns) (x:Option (List (Nat×Nat))) (o:Option AV) (dst:Option Nat) (m:List (IOper×Option (List Nat))) (st:List AV) (es:List Ent) (fr:List AV) (h:Hp) (Q:Ex->St->Prop):Prop:=obP x (fun _=>zpD F o (.mk [(h.next,h.next)] (some [])) dst m st es fr h Q)
theorem jpe {x:List (Nat×Nat)} {o:Option AV}:qt1 F (some x) o dst m st es fr h Q=zpD F o (.mk [(h.next,h.next)] (some [])) dst m st es fr h Q:=jb4
theorem jic {o:PO}:WD F ((.mk dst (.p o) none,some js)::m) st es fr h Q=qt1 F (sel es js h.hid) (pop st fr o) dst m st es fr h Q:=jwo
def qr5 (F:Fns) (x:Option (List (Nat×Nat))) (n:Nat) (agg:Bool) (p:Option AV) (dst:Option Nat) (m:List (IOper×Option (List Nat))) (st:List AV) (es:List Ent) (fr:List AV) (h:Hp) (Q:Ex->St->Prop):Prop:=obP x (fun hid'=>obP p (fun p=>zpD F (jmw (h.hide h.next hid') n agg p) (.mk [] (some (fpV p))) dst m st es fr h Q))
theorem jpf {x:List (Nat×Nat)} {n:Nat}:qr5 F (some x) n agg (some w) dst m st es fr h Q=zpD F (jmw (h.hide h.next x) n agg w) (.mk [] (some (fpV w))) dst m st es fr h Q:=by
 unfold qr5;rw [jb4,jb4]
theorem jid {n:Nat} {x:Od}:WD F ((.mk dst (.a (.load n agg x)) none,some js)::m) st es fr h Q=qr5 F (sel es js h.hid) n agg (ev st fr x) dst m st es fr h Q:=jws
def qr6 (F:Fns) (x:Option (List (Nat×Nat))) (cs:Option (List SV)) (e:TypeId) (size len:Nat) (dst:Option Nat) (m:List (IOper×Option (List Nat))) (st:List AV) (es:List Ent) (fr:List AV) (h:Hp) (Q:Ex->St->Prop):Prop:=obP x (fun hid'=>obP cs (fun cs=>jat hid' h.next=false/\WD F m (.s (.slice h.next 0 len len true size)::st) (.mk [(h.next,h.next+1)] (some [])::es) (jch fr dst (.s (.slice h.next 0 len len true size))) (h.push (.arr cs e)) Q))
theorem jpg {x:List (Nat×Nat)} {cs:List SV} {e:TypeId} {size len:Nat} (hx:jat x h.next=false):qr6 F (some x) (some cs) e size len dst m st es fr h Q=WD F m (.s (.slice h.next 0 len len true size)::st) (.mk [(h.next,h.next+1)] (some [])::es) (jch fr dst (.s (.slice h.next 0 len len true size))) (h.push (.arr cs e)) Q:=by
 unfold qr6;rw [jb4,jb4];exact propext ⟨fun h=>h.2,fun h=>⟨hx,h⟩⟩
theorem jgo {e:TypeId} {size:Nat} {len:Nat} {ps:List (Nat×Nat×Od)}:WD F ((.mk dst (.a (.bslice e size z len ps)) none,some js)::m) st es fr h Q=qr6 F (sel es js h.hid) (fill st fr ps z) e size len dst m st es fr h Q:=jqy
def qun (F:Fns) (x:Option (List (Nat×Nat))) (u:AV) (dst:Option Nat) (m:List (IOper×Option (List Nat))) (st:List AV) (es:List Ent) (fr:List AV) (h:Hp) (Q:Ex->St->Prop):Prop:=obP x (fun _=>WD F m (u::st) (.mk [(h.next,h.next)] none::es) (jch fr dst u) h Q)
theorem jph {x:List (Nat×Nat)} {u:AV}:qun F (some x) u dst m st es fr h Q=WD F m (u::st) (.mk [(h.next,h.next)] none::es) (jch fr dst u) h Q:=jb4
theorem j7d {e:TypeId}:WO F (.mk dst (.a (.new e z)) none::l) st fr h Q=zmO F (jef st fr h (.new e z)) dst l st fr Q:=jgd rfl
theorem j7e {e:TypeId}:WD F ((.mk dst (.a (.new e z)) none,none)::m) st es fr h Q=zmD F (jef st fr h (.new e z)) dst m st es fr Q:=jge rfl
theorem j7f {e:TypeId} {x:Od}:WO F (.mk dst (.a (.box e x)) none::l) st fr h Q=zmO F (jef st fr h (.box e x)) dst l st fr Q:=jgd rfl
theorem j7g {e:TypeId} {x:Od}:WD F ((.mk dst (.a (.box e x)) none,none)::m) st es fr h Q=zmD F (jef st fr h (.box e x)) dst m st es fr Q:=jge rfl
theorem jpi {e:TypeId} {size:Nat} {len:Nat} {ps:List (Nat×Nat×Od)}:WO F (.mk dst (.a (.bslice e size z len ps)) none::l) st fr h Q=zmO F (jef st fr h (.bslice e size z len ps)) dst l st fr Q:=jgd rfl
theorem jpj {e:TypeId} {size:Nat} {len:Nat} {ps:List (Nat×Nat×Od)}:WD F ((.mk dst (.a (.bslice e size z len ps)) none,none)::m) st es fr h Q=zmD F (jef st fr h (.bslice e size z len ps)) dst m st es fr Q:=jge rfl
theorem jl0 {e:TypeId} {size:Nat} {x y:Od}:WO F (.mk dst (.a (.mkslice e size bytes z x y)) none::l) st fr h Q=zmO F (jef st fr h (.mkslice e size bytes z x y)) dst l st fr Q:=jgd rfl
theorem jl1 {e:TypeId} {size:Nat} {x y:Od}:WD F ((.mk dst (.a (.mkslice e size bytes z x y)) none,none)::m) st es fr h Q=zmD F (jef st fr h (.mkslice e size bytes z x y)) dst m st es fr Q:=jge rfl
theorem jzm {n:Nat} {x:Od}:WO F (.mk dst (.a (.load n agg x)) none::l) st fr h Q=zmO F (jef st fr h (.load n agg x)) dst l st fr Q:=jgd rfl
theorem jzn {n:Nat} {x:Od}:WD F ((.mk dst (.a (.load n agg x)) none,none)::m) st es fr h Q=zmD F (jef st fr h (.load n agg x)) dst m st es fr Q:=jge rfl
theorem jtw {n:Nat} {x y:Od}:WO F (.mk dst (.a (.store n x y)) none::l) st fr h Q=zmO F (jef st fr h (.store n x y)) dst l st fr Q:=jgd rfl
theorem jtx {n:Nat} {x y:Od}:WD F ((.mk dst (.a (.store n x y)) none,none)::m) st es fr h Q=zmD F (jef st fr h (.store n x y)) dst m st es fr Q:=jge rfl
theorem j7h {e:TypeId} {size:Nat} {x y:Od}:WO F (.mk dst (.a (.app e size bytes x y)) none::l) st fr h Q=zmO F (jef st fr h (.app e size bytes x y)) dst l st fr Q:=jgd rfl
theorem j7i {e:TypeId} {size:Nat} {x y:Od}:WD F ((.mk dst (.a (.app e size bytes x y)) none,none)::m) st es fr h Q=zmD F (jef st fr h (.app e size bytes x y)) dst m st es fr Q:=jge rfl
theorem jzo {size:Nat} {x y:Od}:WO F (.mk dst (.a (.copy size x y)) none::l) st fr h Q=zmO F (jef st fr h (.copy size x y)) dst l st fr Q:=jgd rfl
theorem jzp {size:Nat} {x y:Od}:WD F ((.mk dst (.a (.copy size x y)) none,none)::m) st es fr h Q=zmD F (jef st fr h (.copy size x y)) dst m st es fr Q:=jge rfl
theorem jty {x:Od}:WO F (.mk dst (.a (.clear z x)) none::l) st fr h Q=zmO F (jef st fr h (.clear z x)) dst l st fr Q:=jgd rfl
theorem jtz {x:Od}:WD F ((.mk dst (.a (.clear z x)) none,none)::m) st es fr h Q=zmD F (jef st fr h (.clear z x)) dst m st es fr Q:=jge rfl
theorem jt0:WO F (.mk dst (.a (.mkmap va)) none::l) st fr h Q=zmO F (jef st fr h (.mkmap va)) dst l st fr Q:=jgd rfl
theorem jt1:WD F ((.mk dst (.a (.mkmap va)) none,none)::m) st es fr h Q=zmD F (jef st fr h (.mkmap va)) dst m st es fr Q:=jge rfl
theorem jzq {x k:Od}:WO F (.mk dst (.a (.look sig va z okf x k)) none::l) st fr h Q=zmO F (jef st fr h (.look sig va z okf x k)) dst l st fr Q:=jgd rfl
theorem jzr {x k:Od}:WD F ((.mk dst (.a (.look sig va z okf x k)) none,none)::m) st es fr h Q=zmD F (jef st fr h (.look sig va z okf x k)) dst m st es fr Q:=jge rfl
theorem jzs {x k y:Od}:WO F (.mk dst (.a (.mupd sig va x k y)) none::l) st fr h Q=zmO F (jef st fr h (.mupd sig va x k y)) dst l st fr Q:=jgd rfl
theorem jzt {x k y:Od}:WD F ((.mk dst (.a (.mupd sig va x k y)) none,none)::m) st es fr h Q=zmD F (jef st fr h (.mupd sig va x k y)) dst m st es fr Q:=jge rfl
theorem jpk {n size:Nat} {x:Od}:WO F (.mk dst (.a (.slicea n size x)) none::l) st fr h Q=zmO F (jef st fr h (.slicea n size x)) dst l st fr Q:=jgd rfl
theorem jpl {n size:Nat} {x:Od}:WD F ((.mk dst (.a (.slicea n size x)) none,none)::m) st es fr h Q=zmD F (jef st fr h (.slicea n size x)) dst m st es fr Q:=jge rfl
theorem jzu {size:Nat} {x:Od}:WO F (.mk dst (.a (.boxc size x)) none::l) st fr h Q=zmO F (jef st fr h (.boxc size x)) dst l st fr Q:=jgd rfl
theorem jzv {size:Nat} {x:Od}:WD F ((.mk dst (.a (.boxc size x)) none,none)::m) st es fr h Q=zmD F (jef st fr h (.boxc size x)) dst m st es fr Q:=jge rfl
noncomputable def qt2 (o:BO) (x y:Option AV):Option AV:=ob x (fun a=>ob y (fun b=>svc none a (fun a=>svc none b (fun b=>jek o a b))))
theorem j7j {o:BO} {x y:Od}:pop st fr (.bin o x y)=qt2 o (ev st fr x) (ev st fr y):=rfl
theorem jpm {o:BO} {a b:SV}:qt2 o (some (.s a)) (some (.s b))=jek o a b:=rfl
noncomputable def qr7 (off:Nat) (x:Option AV):Option AV:=ob x (fun v=>jfj v (fun b o=>some (.s (.ptr b (o+off)))) (fun cs=>some (.s (.cp (jcc off cs)))))
theorem j7k {off:Nat} {x:Od}:pop st fr (.fld off x)=qr7 off (ev st fr x):=rfl
theorem jt2 {off b:Nat}:qr7 off (some (.s (.ptr b o)))=some (.s (.ptr b (o+off))):=rfl
theorem jzw {off:Nat} {cs:List SV}:qr7 off (some (.s (.cp cs)))=some (.s (.cp (jcc off cs))):=rfl
noncomputable def qhx (x:Option AV):Option AV:=ob x (fun v=>jfj v (fun b o=>some (.s (.ptr b o))) (fun cs=>some (.s (.cp cs))))
theorem jzx {x:Od}:pop st fr (.nchk x)=qhx (ev st fr x):=rfl
theorem jpn {b:Nat}:qhx (some (.s (.ptr b o)))=some (.s (.ptr b o)):=rfl
theorem jt3 {cs:List SV}:qhx (some (.s (.cp cs)))=some (.s (.cp cs)):=rfl
noncomputable def qt3 (x:Option AV):Option AV:=ob x jwr
theorem j7l {x:Od}:pop st fr (.len x)=qt3 (ev st fr x):=rfl
theorem jpo:qt3 (some v)=jwr v:=rfl
noncomputable def qt4 (size:Nat) (x y:Option AV):Option AV:=ob x (fun v=>ob y (fun w=>jye size v w))
theorem j7m {size:Nat} {x i:Od}:pop st fr (.ixs size x i)=qt4 size (ev st fr x) (ev st fr i):=rfl
theorem jpp {size:Nat}:qt4 size (some v) (some w)=jye size v w:=rfl
noncomputable def qt5 (n size:Nat) (x y:Option AV):Option AV:=ob x (fun v=>ob y (fun w=>qet n size v w))
theorem j7n {n size:Nat} {x i:Od}:pop st fr (.ixa n size x i)=qt5 n size (ev st fr x) (ev st fr i):=rfl
theorem jpq {n size:Nat}:qt5 n size (some v) (some w)=qet n size v w:=rfl
noncomputable def qog (x:Option AV) (a b:Od) (st fr:List AV):Option AV:=ob x (fun v=>ji2 v (fun t=>ev st fr (oif t a b)))
theorem jzy {c a b:Od}:pop st fr (.pick c a b)=qog (ev st fr c) a b st fr:=rfl
theorem jl2 {a b:Od}:qog (some (.s (.bool t))) a b st fr=if t=true then ev st fr a else ev st fr b:=by cases t<;>rfl
noncomputable def qt6 (i:Nat) (x:Option AV):Option AV:=ob x (fun v=>AV.casesOn (motive:=fun _=>Option AV) v (fun _=>none) (fun _=>none) (fun l=>ob (jej l i) (fun p=>jfk p.1 p.2)) none none)
theorem j7o {x:Od}:pop st fr (.ext i x)=qt6 i (ev st fr x):=rfl
noncomputable def mk1 (p:Option (Bool×List SV)):Option AV:=ob p (fun p=>jfk p.1 p.2)
theorem jt4 {a:Bool} {l:List SV}:mk1 (some (a,l))=jfk a l:=rfl
theorem jt5 {l:List (Bool×List SV)}:qt6 i (some (.tup l))=mk1 (jej l i):=rfl
noncomputable def ldR (h:Hp) (agg:Bool) (cs:Option (List SV)):R:=ob cs (fun cs=>ob (jfk agg cs) (fun v=>ok v h))
theorem qhy {cs:List SV}:ldR h true (some cs)=some (.agg cs,h):=rfl
theorem qhz {a:SV}:ldR h false (some [a])=some (.s a,h):=rfl
noncomputable def qh0 (h:Hp) (n:Nat) (agg:Bool) (x:Option AV):R:=ob x (fun v=>ob (jmw h n agg v) (fun v=>ok v h))
theorem jzz {n:Nat} {x:Od}:jef st fr h (.load n agg x)=qh0 h n agg (ev st fr x):=j1v
theorem jpr {n b:Nat}:qh0 h n agg (some (.s (.ptr b o)))=ldR h agg (rdB (h.get b) o n):=by
 show ob (ob (rdB (h.get b) o n) _) _=_
 rw [qhr];rfl
theorem jt6 {n:Nat} {cs:List SV}:qh0 h n agg (some (.s (.cp cs)))=ldR h agg (jbv n cs):=by
 show ob (ob (jbv n cs) _) _=_
 rw [qhr];rfl
noncomputable def j7p (h:Hp) (n:Nat) (x y:Option AV):R:=ob x (fun p=>ob y (fun v=>j7b h n p v))
theorem jt7 {n:Nat} {x v:Od}:jef st fr h (.store n x v)=j7p h n (ev st fr x) (ev st fr v):=rfl
noncomputable def stR (h:Option Hp):R:=ob h (fun h=>ok .undef h)
theorem jt8:stR (some h)=some (.undef,h):=rfl
theorem je2 {b:Nat} {x:SV} (k:Ok h):j7p h 1 (some (.s (.ptr b o))) (some (.s x))=stR (wrB h b (h.get b) o [x]):=qct k
theorem jda {n b:Nat} {cs:List SV} (k:Ok h) (hn:cs.length=n):j7p h n (some (.s (.ptr b o))) (some (.agg cs))=stR (wrB h b (h.get b) o cs):=j4n k hn
noncomputable def qt7 (h:Hp) (e:TypeId) (size bytes:Nat) (x y:Option AV):R:=ob x (fun v=>ob y (fun w=>jmp h e size bytes v w))
theorem j7q {e:TypeId} {size:Nat} {x y:Od}:jef st fr h (.app e size bytes x y)=qt7 h e size bytes (ev st fr x) (ev st fr y):=rfl
theorem jps {e:TypeId} {size:Nat}:qt7 h e size bytes (some v) (some w)=jmp h e size bytes v w:=rfl
noncomputable def bsO (h:Hp) (e:TypeId) (size len:Nat) (x:Option (List SV)):R:=ob x (fun cs=>some (.s (.slice h.next 0 len len true size),h.push (.arr cs e)))
theorem jt9 {e:TypeId} {size len:Nat} {cs:List SV}:bsO h e size len (some cs)=some (.s (.slice h.next 0 len len true size),h.push (.arr cs e)):=rfl
theorem jd0 {e:TypeId} {size:Nat} {len:Nat} {ps:List (Nat×Nat×Od)} (k:Ok h):jef st fr h (.bslice e size z len ps)=bsO h e size len (fill st fr ps z):=j4o k
noncomputable def qr8 (h:Hp) (e:TypeId) (x:Option AV):R:=ob x (fun v=>cel v (fun cs=>some (.s (.ptr h.next 0),h.push (.arr cs e))))
theorem jkg {e:TypeId} {x:Od} (k:Ok h):jef st fr h (.box e x)=qr8 h e (ev st fr x):=qhs k
theorem j7r {e:TypeId} {x:SV}:qr8 h e (some (.s x))=some (.s (.ptr h.next 0),h.push (.arr [x] e)):=rfl
theorem jua {e:TypeId} {cs:List SV}:qr8 h e (some (.agg cs))=some (.s (.ptr h.next 0),h.push (.arr cs e)):=rfl
noncomputable def qt8 (h:Hp) (e:TypeId) (size bytes:Nat) (z:List SV) (x y:Option AV):R:=ob x (fun v=>ob y (fun u=>qof h e size bytes z v u))
theorem jl3 {e:TypeId} {size:Nat} {l c:Od}:jef st fr h (.mkslice e size bytes z l c)=qt8 h e size bytes z (ev st fr l) (ev st fr c):=rfl
theorem jpt {e:TypeId} {size:Nat}:qt8 h e size bytes z (some v) (some w)=qof h e size bytes z v w:=rfl
noncomputable def re1 (h:Hp) (x:Option (Bool×List SV)):R:=ob x (fun p=>ob (jfk p.1 p.2) (fun v=>some (v,h)))
theorem j7s {r:IR}:jci (.mk fr h) [r]=re1 h (jmu fr h r):=j4p
theorem qh1 {a:SV}:re1 h (some (false,[a]))=some (.s a,h):=rfl
theorem qh2 {l:List SV}:re1 h (some (true,l))=some (.agg l,h):=rfl
noncomputable def reT (g:Option AV):Option (Bool×List SV):=ob g qum
theorem j7t:jmu fr h (.tmp g)=reT (jej fr g):=rfl
theorem qh3 {x:SV}:reT (some (.s x))=some (false,[x]):=rfl
theorem jz0 {x:List SV}:reT (some (.agg x))=some (true,x):=rfl
noncomputable def reC (h:Hp) (n:Nat) (agg:Bool) (g:Option AV):Option (Bool×List SV):=ob g (fun v=>jsg v (fun b off=>ob (rdB (h.get b) off n) (fun cs=>some (agg,cs))))
theorem jz1 {n:Nat}:jmu fr h (.cell g n agg)=reC h n agg (jej fr g):=rfl
noncomputable def reP (agg:Bool) (x:Option (List SV)):Option (Bool×List SV):=ob x (fun cs=>some (agg,cs))
theorem jub {cs:List SV}:reP agg (some cs)=some (agg,cs):=rfl
theorem jz2 {n b:Nat}:reC h n agg (some (.s (.ptr b o)))=reP agg (rdB (h.get b) o n):=rfl
def qr9 (x:R) (Q:AV->Hp->Prop):Prop:=obP x (fun p=>Q p.1 p.2)
theorem jpu {Q:AV->Hp->Prop}:qr9 (some (v,h)) Q=Q v h:=jb4
theorem jjg {res:List IR} {Q:AV->Hp->Prop}:qeq res Q .normal s=qr9 (jci s res) Q:=rfl
theorem juc {res:List IR} {Q:AV->Hp->Prop}:qeq res Q .ret s=qr9 (jci s res) Q:=rfl
noncomputable def re2 (h:Hp) (x:Option (List (Bool×List SV))):R:=ob x (fun vs=>some (.tup vs,h))
theorem jud {l:List (Bool×List SV)}:re2 h (some l)=some (.tup l,h):=rfl
theorem j7u {r r':IR} {k:List IR}:jci (.mk fr h) (r::r'::k)=re2 h (jgu fr h (r::r'::k)):=j4q
theorem jcp {size b off len mc sz:Nat} {ex:Bool} (hm:1<len):jye size (.s (.slice b off len mc ex sz)) (vi 1)=some (.s (.ptr b (off+size))):=by
 have:=jbi (size:=size) (b:=b) (off:=off) (len:=len) (mc:=mc) (sz:=sz) (ex:=ex) hm
 rw [Nat.one_mul] at this;exact this
theorem jd1 {n size b off:Nat} (hm:0<n):qet n size (.s (.ptr b off)) (vi 0)=some (.s (.ptr b off)):=by
 have:=jcw (n:=n) (size:=size) (b:=b) (off:=off) hm
 rw [f2f,f0s] at this;exact this
theorem jd2 {n size b off:Nat} (hm:1<n):qet n size (.s (.ptr b off)) (vi 1)=some (.s (.ptr b (off+size))):=by
 have:=jcw (n:=n) (size:=size) (b:=b) (off:=off) hm
 rw [Nat.one_mul] at this;exact this
theorem je3 {n size:Nat} {cs:List SV} (hm:0<n):qet n size (.s (.cp cs)) (vi 0)=some (.s (.cp cs)):=by
 have:=jfs (n:=n) (size:=size) (cs:=cs) hm
 rw [f2f] at this;exact this
theorem je4 {n size:Nat} {cs:List SV} (hm:1<n):qet n size (.s (.cp cs)) (vi 1)=some (.s (.cp (jcc size cs))):=by
 have:=jfs (n:=n) (size:=size) (cs:=cs) hm
 rw [Nat.one_mul] at this;exact this
theorem jkh (k:Ok h):h.hid=[]:=k.hid
noncomputable def mkL (agg:Bool) (x:Option (List SV)):Option AV:=ob x (fun cs=>jfk agg cs)
theorem qh4 {cs:List SV}:mkL true (some cs)=some (.agg cs):=rfl
theorem qh5 {a:SV}:mkL false (some [a])=some (.s a):=rfl
theorem j7v {n b:Nat}:jmw h n agg (.s (.ptr b o))=mkL agg (rdB (h.get b) o n):=rfl
theorem qh6 {n:Nat} {cs:List SV}:jmw h n agg (.s (.cp cs))=mkL agg (jbv n cs):=rfl
theorem qh7 {a b:Int} (h1:0<=a) (h3:0<b):0<=a % b/\a % b<=a:=by
 have h2:=Int.emod_add_mul_ediv a b
 have h:=Int.ediv_nonneg h1 (Int.le_of_lt h3)
 have h4:=Int.mul_nonneg (Int.le_of_lt h3) h
 exact ⟨f3d a (by omega),by omega⟩
theorem jfu {a b:Int} (h1:0<=a) (h2:a<=9223372036854775807) (h3:0<b):jek .rem (.int .i64 a) (.int .i64 b)=some (vi (a % b)):=by
 have:=qh7 h1 h3
 rw [jtg,if_neg (by omega),f2w h1,jhg (by omega) (by omega)]
theorem j7w {a b:Int} (h1:-9223372036854775808<=a) (h2:a<=9223372036854775807) (h3:0<b):-9223372036854775808<=a.tdiv b/\a.tdiv b<=9223372036854775807:=by
 have h:=Int.natAbs_tdiv_le_natAbs a b
 rcases (by omega:a<0∨0<=a) with h4 | h4
 ·have h5:a.tdiv b<=0:=by
   obtain ⟨c,rfl⟩:∃ c,a=-c:=⟨-a,by omega⟩
   rw [Int.neg_tdiv]
   have:=Int.tdiv_nonneg (a:=c) (b:=b) (by omega) (Int.le_of_lt h3)
   omega
  omega
 ·omega
theorem jjh {a b:Int} (h1:-9223372036854775808<=a) (h2:a<=9223372036854775807) (h3:0<b):jek .quo (.int .i64 a) (.int .i64 b)=some (vi (a.tdiv b)):=by
 have:=j7w h1 h2 h3
 rw [qho,if_neg (by omega),jhg this.1 this.2]
theorem jji {a n:Int} {k:IntKind} (h1:0<=n) (h2:n<=63):jek .shr (.int .i64 a) (.int k n)=some (vi (a / 2 ^ n.toNat)):=by
 obtain ⟨m,rfl⟩:=Int.eq_ofNat_of_zero_le h1
 exact qhp (by omega)
theorem je5 {a n:Nat}:(a=a+(n+1))=False:=eq_false (by omega)
theorem je6 {a n:Nat}:(a+(n+1)=a)=False:=eq_false (by omega)
theorem je7 {e:TypeId} {x:SV} (ok:Ok h) (h1:bytes<=1000):qof h e 1 bytes [x] (vi 2) (vi 2)=some (.s (.slice h.next 0 2 2 true 1),h.push (.arr [x,x] e)) :=
 jze (m:=2) ok (by omega) (by omega)
theorem jjq {a b:Nat} (h:a≠b):(a=b)=False:=eq_false h
theorem jdt {a b:Nat} (h:b<a):(a<=b)=False:=eq_false (by omega)
theorem jdu {a b:Nat} (h:b<=a):(a<b)=False:=eq_false (by omega)
theorem jjr {a b:Nat} (h:a<=b):(a<=b)=True:=eq_true h
theorem jjs {a b:Nat} (h:a<b):(a<b)=True:=eq_true h
theorem qup {a b:Int} (h:a<=b):(a<=b)=True:=eq_true h
theorem quq {a b:Int} (h:a<b):(a<b)=True:=eq_true h
def qh8 (F:Fns) (dst:Option Nat) (m:List (IOper×Option (List Nat))) (st:List AV) (es:List Ent) (fr:List AV) (h:Hp) (Q:Ex->St->Prop) (v:AV) (h':Hp):Prop:=WD F m (v::st) (.mk [(h.next,h'.next)] none::es) (jch fr dst v) (.mk h'.next h'.tr h.lo h.hid) Q
def zkH (F:Fns) (x:Option (List (Nat×Nat))) (vs:Option (List AV)) (f:FuncId) (dst:Option Nat) (m:List (IOper×Option (List Nat))) (st:List AV) (es:List Ent) (fr:List AV) (h:Hp) (Q:Ex->St->Prop):Prop:=obP x (fun hid'=>obP vs (fun vs=>WC F f vs (h.hide h.next hid') (qh8 F dst m st es fr h Q)))
theorem jue {x:List (Nat×Nat)} {f:FuncId}:zkH F (some x) (some vs) f dst m st es fr h Q=WC F f vs (h.hide h.next x) (qh8 F dst m st es fr h Q):=by
 unfold zkH;rw [jb4,jb4]
theorem jl4 {x:List (Nat×Nat)}:qh8 F dst m st es fr h Q v (h.hide lo x)=WD F m (v::st) (.mk [(h.next,h.next)] none::es) (jch fr dst v) h Q:=by cases h;rfl
theorem jhj {f:FuncId} {as:List Od}:WD F ((.mk dst (.a (.call f as)) none,some js)::m) st es fr h Q=zkH F (sel es js h.hid) (evs st fr as) f dst m st es fr h Q:=by
 cases h with
 | mk k t lo hid =>
 rw [jor]
 have key:∀ n v h' e,jyc (jbt F (run F n)) st fr es (.mk k t lo hid) (.a (.call f as)) none (some js)=some (.mk v h' e)↔∃ x vs h1,sel es js hid=some x/\evs st fr as=some vs/\jbt F (run F n) f vs (.mk k t k x)=some (v,h1)/\h'=.mk h1.next h1.tr lo hid/\e=.mk [(k,h1.next)] none:=fun n v h' e=>by
  have e0:jyc (jbt F (run F n)) st fr es (.mk k t lo hid) (.a (.call f as)) none (some js)=ob (sel es js hid) (fun x=>ob (ob (evs st fr as) (fun vs=>jbt F (run F n) f vs (.mk k t k x))) (fun p=>Hp.casesOn (motive:=fun _=>Option DR) p.2 (fun n' t' _ _=>some (.mk p.1 (.mk n' t' lo hid) (.mk [(k,n')] none))))):=rfl
  rw [e0]
  constructor
  ·intro h1
   obtain ⟨x,hx,h2⟩:=jac.1 h1
   obtain ⟨p,hp,h3⟩:=jac.1 h2
   obtain ⟨vs,hvs,h4⟩:=jac.1 hp
   obtain ⟨v1,⟨n1,t1,l1,d1⟩⟩:=p
   cases h3
   exact ⟨x,vs,_,hx,hvs,h4,rfl,rfl⟩
  ·rintro ⟨x,vs,⟨n1,t1,l1,d1⟩,hx,hvs,h4,rfl,rfl⟩
   exact jac.2 ⟨x,hx,jac.2 ⟨(v,.mk n1 t1 l1 d1),jac.2 ⟨vs,hvs,h4⟩,rfl⟩⟩
 refine propext ⟨fun ⟨n,v,h',e,h1,h2⟩=>?_,fun ⟨x,hx,vs,hvs,n,v,h1,h2,h3⟩=>⟨n,v,_,_,(key n v _ _).2 ⟨x,vs,h1,hx,hvs,h2,rfl,rfl⟩,h3⟩⟩
 obtain ⟨x,vs,h3,hx,hvs,h4,rfl,rfl⟩:=(key n v h' e).1 h1
 exact ⟨x,hx,vs,hvs,n,v,h3,h4,h2⟩
theorem jdl {a:Nat} {n:Nat}:((a:Int) / 2 ^ n)=((a / 2 ^ n:Nat):Int):=by
 rw [Int.natCast_ediv,f3b];rfl
theorem jdm:(4+(i:Int)).toNat=4+i:=by omega
theorem jdn:(9+(i:Int)).toNat=9+i:=by omega
theorem jdo:(i:Int).toNat=i:=by omega
theorem jjj {a:Nat}:decide ((a:Int) % 2=1)=decide (a % 2=1):=decide_eq_decide.2 (by omega)
theorem jfv {a:Nat}:(a:Int).tdiv 4=((a / 4:Nat):Int):=rfl
theorem jfw {a:Nat}:(a:Int).tdiv 5=((a / 5:Nat):Int):=rfl
theorem jg5 {x:Option AB} {off sz:Nat} {c:SV} (hr:rdB x off sz=some row) (hj:row[j]?=some c):rdB x (off+j) 1=some [c]:=by
 cases x with
 | none=>cases hr
 | some x =>
  cases x with
  | map va es=>cases hr
  | arr cs ty =>
   rw [jgn,jb9] at hr ⊢
   obtain ⟨h1,rfl⟩:=(jbb _).1 hr
   have hjs:j<sz:=by
    rcases f0l j sz with h | h
    ·exact h
    ·rw [f0x (by simp;omega)] at hj;cases hj
   have hj2:cs[off+j]?=some c:=by
    rw [f2e,if_pos hjs,f1r] at hj;exact hj
   have hl:off+j<cs.length:=by
    rcases f0l (off+j) cs.length with h | h
    ·exact h
    ·rw [f0x h] at hj2;cases hj2
   refine (jbb _).2 ⟨by simp;omega,?_⟩
   have e:cs.drop (off+j)=c::cs.drop (off+j+1):=by
    rw [f1p hl]
    rw [f0b hl] at hj2
    rw [Option.some.inj hj2]
   rw [e];rfl
noncomputable def mmV (mx:Bool) (x y:Option AV):Option AV:=ob x (fun a=>ob y (fun b=>jm1 a (fun k m=>jm1 b (fun k' n=>oif (Nat.beq (ikn k) (ikn k')) (some (.s (.int k (oif (ile m n) (oif mx n m) (oif mx m n))))) none))))
theorem qh9 {mx:Bool} {x y:Od}:pop st fr (.mm mx x y)=mmV mx (ev st fr x) (ev st fr y):=rfl
theorem jz3 {a b:Int}:mmV false (some (.s (.int .i64 a))) (some (.s (.int .i64 b)))=some (vi (if a<=b then a else b)):=by
 show some (AV.s (.int .i64 (oif (ile a b) a b)))=_
 rw [jau,jdv];simp only [decide_eq_true_eq]
theorem jz4 {a b:Int}:mmV true (some (.s (.int .i64 a))) (some (.s (.int .i64 b)))=some (vi (if a<=b then b else a)):=by
 show some (AV.s (.int .i64 (oif (ile a b) b a)))=_
 rw [jau,jdv];simp only [decide_eq_true_eq]
end
attribute [go_sem] jhj jue jl4 j6u qhh j6v qcl jy0 jzh jto js3 j6w j6x jzi jtj jzj jtm jtl jtp jtn jpc jtk j6z jzk jtq jtr jzl jtt jts jtv jtu jpd jic jpe jid jpf jgo jph jpg jgc jll jon jja joo js2 jh9 jlm jop j7d j7f jpi jl0 jzm jtw j7h jzo jty jt0 jzq jzs jpk jzu j7e j7g jpj jl1 jzn jtx j7i jzp jtz jt1 jzr jzt jpl jzv qr0 qr1 qr2 jy3 js4 jov jow jox joy joz jo0 jjc jjd qr3 qr4 jbc qhm jo1 js5 jlp js6 jlq qhn jy4 j60 j61 j62 js7 jlr jls jlt jlu jo2 js8 jo3 jo4 jlv jia jdr jo5 jy5 jy6 qh9 jz3 jz4 j63 jzy jl2 jo6 js9 jo7 j7j jpm jy7 jy8 j7k jt2 jzw jta j7o jt5 jt4 jzx jpn jt3 jtb jke jtc jo8 jlw jje jo9 jtd jte j7l jpo jtf jkf jlx jpa jza jzb jzc jjh jfu jji j65 j66 j67 j68 j69 j7a j7m jpp j7n jpq j7s qh1 qh2 j7t qh3 jz0 jz1 jub jz2 jpu jjg juc jly jft jlz j7u jud qhu jgn jpb jzz jpr jt6 qhy qhz jt7 jt8 jl3 jpt j7q jps jt9 j7r jua jzg j7c jzf jti jaa jjf j7v qh6 qh4 qh5 je5 je6 jcp jcw jfs jd1 jd2 je3 je4 jkh jdz jd0 jkg jhi je2 jda jax jal je7 jco jbi
end Go.Proofs.Ytokcdoklcbgigaa.Ev
