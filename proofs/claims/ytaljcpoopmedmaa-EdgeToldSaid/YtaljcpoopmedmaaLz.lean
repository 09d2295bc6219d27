/- Open runs: what operations answer at values that are known in part. No program in sight. -/
import Derived.Test.YtaljcpoopmedmaaOp
namespace Go.Proofs.Ytaljcpoopmedmaa.Ev
open Go Go.RowKit
set_option linter.all false
abbrev vi (n:Int):AV:=.s (.int .i64 n)
abbrev vb (b:Bool):AV:=.s (.bool b)
abbrev si (n:Int):SV:=.int .i64 n
section
variable {st fr:List AV} {h:Hp} {α β:Type}
theorem qov {i:Nat}:ev st fr (.l i)=jec st i:=rfl
theorem qow {i:Nat}:ev st fr (.g i)=jec fr i:=rfl
theorem qox {v:AV}:ev st fr (.c v)=some v:=rfl
theorem jx4:evs st fr []=some []:=rfl
theorem jss {o:Od} {l:List Od}:evs st fr (o::l)=ob (ev st fr o) (fun v=>ob (evs st fr l) (fun r=>some (v::r))):=rfl
theorem jos {a:α} {l:List α}:jec (a::l) 0=some a:=rfl
theorem jot {a:α} {l:List α} {n:Nat}:jec (a::l) (n+1)=jec l n:=rfl
theorem jou {a x:α} {l:List α}:jqu (a::l) 0 x=x::l:=rfl
theorem jov {a x:α} {l:List α} {n:Nat}:jqu (a::l) (n+1) x=a::jqu l n x:=rfl
theorem jow {v:AV}:jce fr none v=fr:=rfl
theorem jox {d:Nat} {v:AV}:jce fr (some d) v=jqu fr d v:=rfl
theorem jjd:jc9 0=[]:=rfl
theorem jje {n:Nat}:jc9 (n+1)=.undef::jc9 n:=rfl
theorem qoy {a:α} {f:α->Option β}:ob (some a) f=f a:=rfl
theorem qoz {f:α->Option β}:ob none f=none:=rfl
theorem jbk {b:Bool} {x y:α}:oif b x y=if b=true then x else y:=by cases b<;>rfl
theorem qen {e:Option β} {x:SV} {f:SV->Option β}:svc e (.s x) f=f x:=rfl
theorem joy {e:Option β} {f:SV->Option β}:svc e .undef f=e:=rfl
theorem jst {k:IntKind} {n:Int} {f:IntKind->Int->Option β}:j88 (.int k n) f=f k n:=rfl
theorem jlp {b:Bool} {f:Bool->Option β}:jmp (.bool b) f=f b:=rfl
theorem jsu {k:IntKind} {n:Int} {f:IntKind->Int->Option β}:jm0 (.s (.int k n)) f=f k n:=rfl
theorem jlq {b:Bool} {f:Bool->Option β}:ji3 (.s (.bool b)) f=f b:=rfl
theorem qeo {x:SV} {f:List SV->Option β}:cel (.s x) f=f [x]:=rfl
theorem jx5 {l:List SV} {f:List SV->Option β}:cel (.agg l) f=f l:=rfl
theorem j5b {a:SV}:jfa false [a]=some (.s a):=rfl
theorem j5c {l:List SV}:jfa true l=some (.agg l):=rfl
theorem j5d {x:SV} {f:List SV->Option β}:jxd false (.s x) f=f [x]:=rfl
theorem jsv {l:List SV} {f:List SV->Option β}:jxd true (.agg l) f=f l:=rfl
theorem jlr {l:List α}:jby 0 l=some []:=rfl
theorem jls {a:α} {l:List α} {n:Nat}:jby (n+1) (a::l)=ob (jby n l) (fun x=>some (a::x)):=rfl
theorem jlt {l:List α}:jb9 0 l=l:=rfl
theorem jlu {a:α} {l:List α} {n:Nat}:jb9 (n+1) (a::l)=jb9 n l:=rfl
theorem joz {n:Nat}:jb9 n ([]:List α)=[]:=by cases n<;>rfl
theorem jsw:jc2 ([]:List α)=0:=rfl
theorem jo0 {a:α} {l:List α}:jc2 (a::l)=jc2 l+1:=rfl
theorem jo1 {l:List α}:jnj [] l=some l:=rfl
theorem jlv {x a:α} {xs l:List α}:jnj (x::xs) (a::l)=ob (jnj xs l) (fun y=>some (x::y)):=rfl
theorem jh5 {xs l:List α}:jbq 0 xs l=jnj xs l:=rfl
theorem jdk {a:α} {xs l:List α} {n:Nat}:jbq (n+1) xs (a::l)=ob (jbq n xs l) (fun y=>some (a::y)):=rfl
theorem jo2 {a:Nat}:Nat.beq a a=true:=Nat.beq_refl a
theorem jx6 {a b:Nat}:(Nat.beq a b=true)=(a=b):=jg3 a b
theorem jx7 {a b:Nat}:(Nat.ble a b=true)=(a<=b):=ju5 a b
theorem j5e {x:Od}:pop st fr (.mv x)=ev st fr x:=rfl
theorem jo3 {z:List SV} {ps:List (Nat×Nat×Od)}:pop st fr (.build z ps)=ob (fill st fr ps z) (fun cs=>some (.agg cs)):=rfl
theorem jsx {cs:List SV}:fill st fr [] cs=some cs:=rfl
theorem jo4 {off n:Nat} {o:Od} {ps:List (Nat×Nat×Od)} {cs:List SV}:fill st fr ((off,n,o)::ps) cs=ob (ev st fr o) (fun v=>cel v (fun xs=>oif (Nat.beq (jc2 xs) n) (ob (jbq off xs cs) (fill st fr ps)) none)):=rfl
theorem jx8 {x:Od}:pop st fr (.not x)=ob (ev st fr x) (fun v=>ji3 v (fun b=>some (.s (.bool (!b))))):=by
 show ob (ev st fr x) (fun v=>ji3 v (fun b=>some (AV.s (.bool (jhm b)))))=_
 congr 1;funext v;congr 1;funext b;cases b<;>rfl
theorem jx9 {x:Od}:pop st fr (.neg x)=ob (ev st fr x) (fun v=>jm0 v (fun k n=>j3o k (-n))):=rfl
theorem jsy {off n:Nat} {agg:Bool} {x:Od}:pop st fr (.fval off n agg x)=ob (ev st fr x) (fun v=>AV.casesOn (motive:=fun _=>Option AV) v (fun _=>none) (fun cs=>ob (jby n (jb9 off cs)) (fun cs=>jfa agg cs)) (fun _=>none) none none):=rfl
theorem jsz {k:IntKind} {x:Od}:pop st fr (.conv k x)=ob (ev st fr x) (fun v=>jm0 v (fun _ n=>j87 k n)):=rfl
theorem jkg {f:FuncId} {cs:List Od}:pop st fr (.mkfun f cs)=ob (evs st fr cs) (fun vs=>ob (qbh vs) (fun ps=>some (.s (.func f ps)))):=rfl
theorem js0:qbh []=some []:=rfl
theorem jo5 {b o:Nat} {l:List AV}:qbh (.s (.ptr b o)::l)=ob (qbh l) (fun r=>some ((b,o)::r)):=rfl
theorem jlw:jgj []=[]:=rfl
theorem jjf {b o:Nat} {l:List (Nat×Nat)}:jgj ((b,o)::l)=.s (.ptr b o)::jgj l:=rfl
theorem jo6 {b o:Nat} {f:Nat->Nat->Option β} {g:List SV->Option β}:je9 (.s (.ptr b o)) f g=f b o:=rfl
theorem js1 {cs:List SV} {f:Nat->Nat->Option β} {g:List SV->Option β}:je9 (.s (.cp cs)) f g=g cs:=rfl
theorem js2 {b o:Nat} {f:Nat->Nat->Option β}:jr3 (.s (.ptr b o)) f=f b o:=rfl
noncomputable def ju6 (v:AV):Option AV:=jc8 v (some (.s (.int .i64 0))) (fun _ _ n _ _ _=>some (.s (.int .i64 (Int.ofNat n)))) (fun rows=>some (.s (.int .i64 (Int.ofNat (jc2 rows))))) (some (.s (.int .i64 0)))
theorem js3:ju6 (.s .nilSlice)=some (vi 0):=rfl
theorem jkh {rows:List (List SV)}:ju6 (.s (.lst rows))=some (vi rows.length):=by
 show some (AV.s (.int .i64 (Int.ofNat (jc2 rows))))=_
 rw [jbi];rfl
theorem jlx {b o n mc sz:Nat} {e:Bool}:ju6 (.s (.slice b o n mc e sz))=some (vi n):=rfl
def j5f (n:Int):Option AV:=if -9223372036854775808<=n/\n<=9223372036854775807 then some (vi n) else none
theorem j96 {n:Int} (h1:-9223372036854775808<=n) (h2:n<=9223372036854775807):inR .i64 n=true:=by
 cases n with
 | ofNat m=>exact (ju5 m 9223372036854775807).symm▸(by have:(m:Int)<=9223372036854775807:=h2
                                                       omega)
 | negSucc m=>exact (ju5 m 9223372036854775807).symm▸(by have:-9223372036854775808<=Int.negSucc m:=h1
                                                         omega)
theorem jo7 {n:Int}:j3o .i64 n=j5f n:=by
 unfold j5f
 show oif (inR .i64 n) (some (AV.s (.int .i64 n))) none=_
 split
 ·rename_i h;rw [j96 h.1 h.2];rfl
 ·rename_i h
  cases e:inR .i64 n with
  | false=>rfl
  | true =>
   rcases jdi e with ⟨_,a,b⟩ | ⟨e,_⟩ | ⟨e,_⟩
   ·exact absurd ⟨a,b⟩ h
   ·cases e
   ·cases e
theorem jim {n:Int} (h1:-9223372036854775808<=n) (h2:n<=9223372036854775807):j5f n=some (vi n):=if_pos ⟨h1,h2⟩
def w64 (n:Int):Int:=IntKind.wrap .i64 n
theorem jag {n:Int} (h1:-9223372036854775808<=n) (h2:n<=9223372036854775807):w64 n=n:=jjw (j96 h1 h2)
theorem jya {n:Int}:j85 .i64 n=some (vi (w64 n)):=by
 show oif (inR .i64 n) (some (AV.s (.int .i64 n))) (some (AV.s (.int .i64 (IntKind.wrap .i64 n))))=_
 cases e:inR .i64 n with
 | true=>rw [show w64 n=n from jjw e];rfl
 | false=>rfl
variable {a b:Int}
theorem jyb:jem .add (.int .i64 a) (.int .i64 b)=some (vi (w64 (a+b))):=by
 rw [←jya];show j85 .i64 (qbg a b)=_;rw [jr9]
theorem jyc:jem .sub (.int .i64 a) (.int .i64 b)=some (vi (w64 (a - b))):=by rw [←jya];rfl
theorem jyd:jem .mul (.int .i64 a) (.int .i64 b)=some (vi (w64 (a*b))):=by rw [←jya];rfl
theorem qep:jem .quo (.int .i64 a) (.int .i64 b)=if b=0 then none else j5f (a.tdiv b):=by
 rw [←jo7]
 show oif (ieq b 0) none (j3o .i64 (a.tdiv b))=_
 rw [jas,jcy];simp only [decide_eq_true_eq]
theorem jye:jem .rem (.int .i64 a) (.int .i64 b)=if b=0 then none else j5f (a.tmod b):=by
 rw [←jo7]
 show oif (ieq b 0) none (j3o .i64 (a.tmod b))=_
 rw [jas,jcy];simp only [decide_eq_true_eq]
theorem j5g:jem .eq (.int .i64 a) (.int .i64 b)=some (vb (decide (a=b))):=by
 show some (AV.s (.bool (ieq a b)))=_;rw [jcy]
theorem j5h:jem .ne (.int .i64 a) (.int .i64 b)=some (vb (decide (a≠b))):=by
 show some (AV.s (.bool (jhm (ieq a b))))=_;rw [jcy,jgd];congr 3;by_cases h:a=b<;>simp [h]
theorem j5i:jem .lt (.int .i64 a) (.int .i64 b)=some (vb (decide (a<b))):=by
 show some (AV.s (.bool (jhm (ile b a))))=_;rw [jdo,jgd];congr 3;by_cases h:a<b<;>simp [h]
 omega
theorem j5j:jem .le (.int .i64 a) (.int .i64 b)=some (vb (decide (a<=b))):=by
 show some (AV.s (.bool (ile a b)))=_;rw [jdo]
theorem j5k:jem .gt (.int .i64 a) (.int .i64 b)=some (vb (decide (b<a))):=by
 show some (AV.s (.bool (jhm (ile a b))))=_;rw [jdo,jgd];congr 3;by_cases h:b<a<;>simp [h]
 omega
theorem j5l:jem .ge (.int .i64 a) (.int .i64 b)=some (vb (decide (b<=a))):=by
 show some (AV.s (.bool (ile b a)))=_;rw [jdo]
theorem qeq {n:Nat} {k:IntKind} (hn:n<=63):jem .shr (.int .i64 a) (.int k (n:Int))=some (vi (a / 2 ^ n)):=by
 have hs:j86 .i64 n=true:=by
  have hI:jnk .i64=true:=rfl
  unfold j86
  simp [jas,ju5,hn,hI]
 have e:jem .shr (.int .i64 a) (.int k (n:Int))=ju7 .shr .i64 a (n:Int):=by
  show oif (Nat.beq (ikn .i64) (ikn k)) (ju7 .shr .i64 a n) (oif true (ju7 .shr .i64 a n) none)=_
  cases Nat.beq (ikn .i64) (ikn k)<;>rfl
 rw [e]
 cases a with
 | ofNat m =>
  show oif (j86 .i64 n) (some (AV.s (.int .i64 (Int.ofNat (Nat.div m (Nat.pow 2 n)))))) none=_
  rw [hs]
  have:Int.ofNat (Nat.div m (Nat.pow 2 n))=Int.ofNat m / 2 ^ n:=by
   show ((m / 2 ^ n:Nat):Int)=(m:Int) / 2 ^ n
   rw [Int.natCast_ediv,Int.natCast_pow];rfl
  rw [this];rfl
 | negSucc m =>
  show oif (j86 .i64 n) (some (AV.s (.int .i64 (Int.negSucc (Nat.div m (Nat.pow 2 n)))))) none=_
  rw [hs]
  have:Int.negSucc (Nat.div m (Nat.pow 2 n))=Int.negSucc m / 2 ^ n:=by
   obtain ⟨q,hq⟩:∃ q,2 ^ n=q+1:=⟨2 ^ n - 1,by have:=Nat.two_pow_pos n;omega⟩
   have h2:(2:Int) ^ n=((q+1:Nat):Int):=by rw [←hq,Int.natCast_pow];rfl
   have h3:Nat.pow 2 n=q+1:=hq
   rw [h2,h3];rfl
  rw [this];rfl
theorem jg9 (h1:-9223372036854775808<=a) (h2:a<=9223372036854775807):jem .and (.int .i64 a) (.int .i64 1)=some (vi (a % 2)):=by
 have hr:=j96 h1 h2
 cases a with
 | ofNat m =>
  show oif (inR .i64 (.ofNat m)) (some (AV.s (.int .i64 (.ofNat (Nat.land m 1))))) none=_
  rw [hr]
  have:Int.ofNat (Nat.land m 1)=Int.ofNat m % 2:=by
   rw [show Nat.land m 1=m % 2 from Nat.and_one_is_mod m];rfl
  rw [this];rfl
 | negSucc m =>
  show oif (inR .i64 (.negSucc m)) (some (AV.s (.int .i64 (.ofNat (Nat.xor 1 (Nat.land 1 m)))))) none=_
  rw [hr]
  have:Int.ofNat (Nat.xor 1 (Nat.land 1 m))=Int.negSucc m % 2:=by
   have e:Nat.land 1 m=m % 2:=(Nat.and_comm 1 m).trans (Nat.and_one_is_mod m)
   rw [e]
   rcases Nat.mod_two_eq_zero_or_one m with h | h
   ·rw [h];show (1:Int)=_;omega
   ·rw [h];show (0:Int)=_;omega
  rw [this];rfl
theorem qer (h1:-9223372036854775808<=a) (h2:a<=9223372036854775807):jem .or (.int .i64 a) (.int .i64 1)=some (vi (a+(1 - a % 2))):=by
 have hr:=j96 h1 h2
 cases a with
 | ofNat m =>
  show oif (inR .i64 (.ofNat m)) (some (AV.s (.int .i64 (.ofNat (Nat.lor m 1))))) none=_
  rw [hr]
  have:Int.ofNat (Nat.lor m 1)=Int.ofNat m+(1 - Int.ofNat m % 2):=by
   have e:m ||| 1=m+(1 - m % 2):=by
    have h1:(m ||| 1) / 2=m / 2:=by rw [Nat.or_div_two];simp
    have h2:(m ||| 1) % 2=1:=by rw [Nat.or_mod_two_eq_one];simp
    omega
   show ((m ||| 1:Nat):Int)=(m:Int)+(1 - (m:Int) % 2)
   rw [e];omega
  rw [this];rfl
 | negSucc m =>
  show oif (inR .i64 (.negSucc m)) (some (AV.s (.int .i64 (.negSucc (Nat.xor m (Nat.land m 1)))))) none=_
  rw [hr]
  have:Int.negSucc (Nat.xor m (Nat.land m 1))=Int.negSucc m+(1 - Int.negSucc m % 2):=by
   have e:m ^^^ (m &&& 1)=m - m % 2:=by
    have h1:(m ^^^ (m &&& 1)) / 2=m / 2:=by rw [Nat.xor_div_two,Nat.and_div_two];simp
    have h2:¬ (m ^^^ (m &&& 1)) % 2=1:=by
     have e:m &&& 1=m % 2:=Nat.and_one_is_mod m
     rw [e,Nat.xor_mod_two_eq_one];omega
    omega
   show Int.negSucc (m ^^^ (m &&& 1))=_
   rw [e];omega
  rw [this];rfl
end
structure Ok (h:Hp):Prop where
 hid:h.hid=[]
 lo:h.lo=0
 pos:1<=h.next
theorem jin {a b:Nat} (h:a<=b):Nat.ble a b=true:=by rw [ju5];exact h
theorem jes:Ok h0:=⟨rfl,rfl,Nat.le_refl 1⟩
section
variable {h:Hp} {F:Fns} {st fr:List AV} {Q:Ex->St->Prop} {β:Type}
theorem jac {x:AB} (k:Ok h):Ok (h.push x):=⟨k.hid,k.lo,Nat.le_succ_of_le k.pos⟩
theorem jad {b:Nat} {x:Option AB} (k:Ok h):Ok (h.put b x):=⟨by rw [Hp.hid_put];exact k.hid,by rw [Hp.lo_put];exact k.lo,by rw [Hp.next_put];exact k.pos⟩
theorem jau {x:AB} {n:Nat} (k:Ok h):(h.push x).get n=if n=h.next then some x else h.get n:=by
 rw [Hp.get_eq,Hp.get_eq,Hp.hid_push,k.hid]
 have e:jaq [] n=false:=rfl
 rw [e]
 show (h.tr.put (Nat.succ h.next) h.next (some x)).get n=_
 split
 ·rename_i hn;subst hn;exact jbv _ _ _ _ k.pos (jmd _)
 ·rename_i hn;exact jb0 _ _ _ _ n k.pos (jmd _) hn
theorem jak {b n:Nat} {x:Option AB} (k:Ok h) (hb:1<=b):(h.put b x).get n=if n=b then x else h.get n:=by
 rw [Hp.get_eq,Hp.get_eq,Hp.hid_put,k.hid,Hp.tr_put]
 have e:jaq [] n=false:=rfl
 rw [e]
 show (h.tr.put (Nat.succ b) b x).get n=_
 split
 ·rename_i hn;subst hn;exact jbv _ _ _ _ hb (jmd _)
 ·rename_i hn;exact jb0 _ _ _ _ n hb (jmd _) hn
noncomputable def Hp.hide (h:Hp) (lo:Nat) (hid:List (Nat×Nat)):Hp:=.mk h.next h.tr lo hid
theorem jaa {n:Nat}:jaq [] n=false:=by cases n<;>rfl
theorem jjg {a b n:Nat} {l:List (Nat×Nat)}:jaq ((a,b)::l) n=if a<=n/\n<b then true else jaq l n:=by
 show oif (Nat.ble a n) (oif (Nat.ble (n+1) b) true (jaq l n)) (jaq l n)=_
 simp only [jas,ju5]
 by_cases h1:a<=n
 ·by_cases h2:n+1<=b
  ·rw [if_pos h1,if_pos h2,if_pos ⟨h1,h2⟩]
  ·rw [if_pos h1,if_neg h2,if_neg (fun h=>h2 h.2)]
 ·rw [if_neg h1,if_neg (fun h=>h1 h.1)]
theorem jet {lo n:Nat} {hid:List (Nat×Nat)} (k:Ok h):(h.hide lo hid).get n=if jaq hid n=true then none else h.get n:=by
 rw [Hp.get_eq,Hp.get_eq,k.hid];rfl
theorem jyf {cs:List SV} {ty:TypeId} {f:Nat->Hp->Option β} (k:Ok h):nw h cs ty f=f h.next (h.push (.arr cs ty)):=by
 cases h with
 | mk n t lo hid =>
  obtain rfl:hid=[]:=k.hid
  rfl
noncomputable def rdB (x:Option AB) (off n:Nat):Option (List SV):=ob x (fun x=>AB.casesOn (motive:=fun _=>Option (List SV)) x (fun cs _=>jby n (jb9 off cs)) (fun _ _=>none))
theorem jfh {cs:List SV} {ty:TypeId} {off n:Nat}:rdB (some (.arr cs ty)) off n=jby n (jb9 off cs):=rfl
noncomputable def wrB (h:Hp) (b:Nat) (x:Option AB) (off:Nat) (xs:List SV):Option Hp:=ob x (fun x=>AB.casesOn (motive:=fun _=>Option Hp) x (fun cs ty=>ob (jbq off xs cs) (fun cs'=>some (h.put b (some (.arr cs' ty))))) (fun _ _=>none))
theorem qk4 {b off:Nat} {xs:List SV} (k:Ok h):wr h b off xs=wrB h b (h.get b) off xs:=by
 show oif (Nat.ble h.lo b) _ none=_
 rw [k.lo];rfl
theorem jo8 {b:Nat} {cs:List SV} {ty:TypeId} {off:Nat} {xs:List SV}:wrB h b (some (.arr cs ty)) off xs=ob (jbq off xs cs) (fun cs'=>some (h.put b (some (.arr cs' ty)))):=rfl
noncomputable def jms (h:Hp) (n:Nat) (agg:Bool) (v:AV):Option AV:=je9 v (fun b off=>ob (rd h b off n) (fun cs=>jfa agg cs)) (fun cs=>ob (jby n cs) (fun cs=>jfa agg cs))
theorem qes {α γ:Type} {x:Option α} {f:α->Option β} {g:β->Option γ}:ob (ob x f) g=ob x (fun a=>ob (f a) g):=by cases x<;>rfl
theorem j0p {n:Nat} {agg:Bool} {x:Od}:jd8 st fr h (.load n agg x)=ob (ev st fr x) (fun v=>ob (jms h n agg v) (fun v=>ok v h)):=by
 show ob (ev st fr x) (fun v=>je9 v (fun b off=>ob (rd h b off n) (fun cs=>ob (jfa agg cs) (fun v=>ok v h))) (fun cs=>ob (jby n cs) (fun cs=>ob (jfa agg cs) (fun v=>ok v h))))=_
 congr 1
 funext v
 cases v with
 | s v=>cases v<;>first | rfl | (show ob _ _=ob (ob _ _) _;rw [qes])
 | _=>rfl
noncomputable def j5m (h:Hp) (n:Nat) (p v:AV):R:=jr3 p (fun b off=>cel v (fun cs=>oif (Nat.beq (jc2 cs) n) (ob (wr h b off cs) (fun h=>ok .undef h)) none))
theorem j97 {b o:Nat} {v:SV} (k:Ok h):j5m h 1 (.s (.ptr b o)) (.s v)=ob (wrB h b (h.get b) o [v]) (fun h=>ok .undef h):=by
 show ob (wr h b o [v]) _=_
 rw [qk4 k]
theorem j2w {n b o:Nat} {cs:List SV} (k:Ok h) (hn:cs.length=n):j5m h n (.s (.ptr b o)) (.agg cs)=ob (wrB h b (h.get b) o cs) (fun h=>ok .undef h):=by
 show oif (Nat.beq (jc2 cs) n) (ob (wr h b o cs) _) none=_
 rw [qk4 k,jbi,hn,Nat.beq_refl];rfl
theorem jha {e:TypeId} {z:List SV} (k:Ok h):jd8 st fr h (.new e z)=some (.s (.ptr h.next 0),h.push (.arr z e)):=by
 show nw h z e (fun n h=>ok (.s (.ptr n 0)) h)=_
 rw [jyf k];rfl
theorem qet {e:TypeId} {x:Od} (k:Ok h):jd8 st fr h (.box e x)=ob (ev st fr x) (fun v=>cel v (fun cs=>some (.s (.ptr h.next 0),h.push (.arr cs e)))):=by
 show ob (ev st fr x) (fun v=>cel v (fun cs=>nw h cs e (fun n h=>ok (.s (.ptr n 0)) h)))=_
 congr 1;funext v;congr 1;funext cs;rw [jyf k];rfl
theorem j2x {e:TypeId} {size:Nat} {z:List SV} {len:Nat} {ps:List (Nat×Nat×Od)} (k:Ok h):jd8 st fr h (.bslice e size z len ps)=ob (fill st fr ps z) (fun cs=>some (.s (.slice h.next 0 len len true size),h.push (.arr cs e))):=by
 show ob (fill st fr ps z) (fun cs=>nw h cs e (fun n h=>ok (.s (.slice n 0 len len true size)) h))=_
 congr 1;funext cs;rw [jyf k];rfl
noncomputable def qn6 (h:Hp) (e:TypeId) (size bytes:Nat) (z:List SV) (l c:AV):R:=qbk l (fun m=>qbk c (fun k=>oif (Nat.ble m k) (oif (Nat.ble (Nat.mul bytes k) 1000000000) (oif (Nat.ble k 1000000000) (nw h (rep z k) e (fun b h=>ok (.s (.slice b 0 m k true size)) h)) none) none) none))
theorem jyg {e:TypeId} {size bytes:Nat} {z:List SV} {m:Nat} (k:Ok h) (h1:bytes*m<=1000000000) (h2:m<=1000000000):qn6 h e size bytes z (vi m) (vi m)=some (.s (.slice h.next 0 m m true size),h.push (.arr (rep z m) e)):=by
 show oif (Nat.ble m m) (oif (Nat.ble (Nat.mul bytes m) 1000000000) (oif (Nat.ble m 1000000000) (nw h (rep z m) e _) none) none) none=_
 rw [jyf k,jin (Nat.le_refl m),jin h2,show Nat.ble (Nat.mul bytes m) 1000000000=true from jin h1];rfl
noncomputable def jxh (size:Nat) (v w:AV):Option AV:=jc8 v none (fun b off len _ _ _=>ji4 w len (fun m=>some (.s (.ptr b (Nat.add off (Nat.mul m size))))))
 (fun rows=>ji4 w (jc2 rows) (fun m=>ob (jec rows m) (fun row=>oif (Nat.beq (jc2 row) size) (some (.s (.cp row))) none))) none
theorem jh6 {m n:Nat} {f:Nat->Option β} (hm:m<n):ji4 (vi (m:Int)) n f=f m:=by
 show oif (Nat.ble (Nat.succ m) n) (f m) none=_
 rw [jin (show Nat.succ m<=n from hm)];rfl
theorem jbf {size b off len mc sz m:Nat} {ex:Bool} (hm:m<len):jxh size (.s (.slice b off len mc ex sz)) (vi (m:Int))=some (.s (.ptr b (off+m*size))):=jh6 (f:=fun m=>some (AV.s (.ptr b (Nat.add off (Nat.mul m size))))) hm
theorem jcm {size b off len mc sz:Nat} {ex:Bool} (hm:0<len):jxh size (.s (.slice b off len mc ex sz)) (vi 0)=some (.s (.ptr b off)):=by
 have:=jh6 (f:=fun m=>some (AV.s (.ptr b (Nat.add off (Nat.mul m size))))) hm
 refine this.trans ?_
 show some (AV.s (.ptr b (off+0*size)))=_
 rw [Nat.zero_mul,Nat.add_zero]
theorem j0q {size m:Nat} {rows:List (List SV)} {row:List SV} (hr:rows[m]?=some row) (hl:row.length=size):jxh size (.s (.lst rows)) (vi (m:Int))=some (.s (.cp row)):=by
 have hm:m<rows.length:=by
  rcases Nat.lt_or_ge m rows.length with h | h
  ·exact h
  ·rw [List.getElem?_eq_none h] at hr;cases hr
 have:=jh6 (f:=fun m=>ob (jec rows m) (fun row=>oif (Nat.beq (jc2 row) size) (some (AV.s (.cp row))) none)) (show m<jc2 rows by rw [jbi];exact hm)
 refine this.trans ?_
 rw [jcg,hr]
 show oif (Nat.beq (jc2 row) size) _ none=_
 rw [jbi,hl,Nat.beq_refl];rfl
noncomputable def qby (n size:Nat) (v w:AV):Option AV:=je9 v (fun b off=>ji4 w n (fun m=>some (.s (.ptr b (Nat.add off (Nat.mul m size)))))) (fun cs=>ji4 w n (fun m=>some (.s (.cp (jb9 (Nat.mul m size) cs)))))
theorem jct {n size b off m:Nat} (hm:m<n):qby n size (.s (.ptr b off)) (vi (m:Int))=some (.s (.ptr b (off+m*size))):=jh6 (f:=fun m=>some (AV.s (.ptr b (Nat.add off (Nat.mul m size))))) hm
theorem jfi {n size m:Nat} {cs:List SV} (hm:m<n):qby n size (.s (.cp cs)) (vi (m:Int))=some (.s (.cp (jb9 (m*size) cs))):=jh6 (f:=fun m=>some (AV.s (.cp (jb9 (Nat.mul m size) cs)))) hm
noncomputable def qqu (h:Hp) (e:TypeId) (size bytes b n m:Nat) (x:Option AB) (new:List SV):R :=
 jnl bytes (Nat.add n m) (ob x (fun x=>AB.casesOn (motive:=fun _=>R) x (fun cs ty =>
  ob (jby (Nat.mul n size) (jb9 0 cs)) (fun old=>(oif (Nat.ble h.lo b) (oif (Nat.beq ty e) (nw (h.put b none) (jhj old new) e (fun k h=>ok (.s (.slice k 0 (Nat.add n m) (Nat.add n m) false size)) h)) none) none))) (fun _ _=>none)))
noncomputable def jo9 (h:Hp) (e:TypeId) (size bytes:Nat) (v w:AV):R:=jc8 w (j84 v (ok v h)) (fun b' off' m _ _ _=>ob (rd h b' off' (Nat.mul m size)) (fun new=>j19 h e size bytes m v new))
 (fun rows=>ob (j18 size rows) (fun new=>j19 h e size bytes (jc2 rows) v new)) (j84 v (ok v h))
theorem jqp {e:TypeId} {size bytes b' o' m mc' sz':Nat} {ex':Bool}:jo9 h e size bytes (.s .nilSlice) (.s (.slice b' o' m mc' ex' sz'))=ob (rdB (h.get b') o' (m*size)) (fun new=>Nat.casesOn (motive:=fun _=>R) m (some (.s .nilSlice,h)) (fun _=>jnl bytes m (nw h new e (fun k h=>ok (.s (.slice k 0 m m false size)) h)))):=rfl
theorem js4 {bytes n:Nat} {x:R} (h1:n*bytes<=1000000000) (h2:n<=1000000000):jnl bytes n x=x:=by
 show oif (Nat.ble (Nat.mul n bytes) 1000000000) (oif (Nat.ble n 1000000000) x none) none=_
 rw [show Nat.ble (Nat.mul n bytes) 1000000000=true from jin h1,jin h2];rfl
theorem jmt {e:TypeId} {size bytes b n b' o' m mc' sz':Nat} {ex':Bool} (hm:1<=m):jo9 h e size bytes (.s (.slice b 0 n n false size)) (.s (.slice b' o' m mc' ex' sz'))=ob (rdB (h.get b') o' (m*size)) (fun new=>qqu h e size bytes b n m (h.get b) new):=by
 show ob (rdB (h.get b') o' (m*size)) (fun new=>oif (Nat.beq size size) (oif (Nat.ble (Nat.add n m) n) _ (jnl bytes (Nat.add n m) (jr5 h e size b 0 n m false new))) none)=_
 congr 1
 funext new
 have e1:Nat.ble (Nat.add n m) n=false:=by
  cases e:Nat.ble (Nat.add n m) n with
  | false=>rfl
  | true=>rw [ju5] at e;have:n+m<=n:=e;omega
 rw [Nat.beq_refl]
 show oif (Nat.ble (Nat.add n m) n) _ _=_
 rw [e1]
 rfl
theorem qeu {e:TypeId} {size bytes b n m:Nat} {cs new:List SV} (k:Ok h) (hc:cs.length=n*size) (h1:(n+m)*bytes<=1000000000) (h2:n+m<=1000000000) :
 qqu h e size bytes b n m (some (.arr cs e)) new=some (.s (.slice h.next 0 (n+m) (n+m) false size),(h.put b none).push (.arr (cs++new) e)):=by
 show jnl bytes (n+m) (ob (jby (n*size) cs) (fun old=>oif (Nat.ble h.lo b) (oif (Nat.beq e e) (nw (h.put b none) (jhj old new) e _) none) none))=_
 rw [js4 h1 h2,(ja6 _).2 ⟨Nat.le_of_eq hc.symm,rfl⟩,←hc,List.take_length]
 show oif (Nat.ble h.lo b) (oif (Nat.beq e e) (nw (h.put b none) (jhj cs new) e _) none) none=_
 rw [k.lo,Nat.beq_refl,jyf (jad k),jdd,Hp.next_put]
 rfl
noncomputable def qri (v:AV):Option (Bool×List SV):=AV.casesOn (motive:=fun _=>Option (Bool×List SV)) v (fun s=>some (false,[s])) (fun l=>some (true,l)) (fun _=>none) none none
theorem jly:jgl fr h []=some []:=rfl
theorem jfj {r:IR} {l:List IR}:jgl fr h (r::l)=ob (jmr fr h r) (fun v=>ob (jgl fr h l) (fun x=>some (v::x))):=rfl
theorem jlz:jcf (.mk fr h) []=some (.tup [],h):=rfl
theorem j2y {r:IR}:jcf (.mk fr h) [r]=ob (jmr fr h r) (fun p=>ob (jfa p.1 p.2) (fun v=>some (v,h))):=by
 show ob (ob (jmr fr h r) (fun v=>ob (some []) (fun x=>some (v::x)))) (fun vs=>List.casesOn (motive:=fun _=>R) vs (ok (.tup []) h) (fun p r=>List.casesOn (motive:=fun _=>R) r (ob (jfa p.1 p.2) (fun v=>ok v h)) (fun _ _=>ok (.tup vs) h)))=_
 cases jmr fr h r<;>rfl
theorem j2z {r r':IR} {l:List IR}:jcf (.mk fr h) (r::r'::l)=ob (jgl fr h (r::r'::l)) (fun vs=>some (.tup vs,h)):=by
 show ob (jgl fr h (r::r'::l)) (fun vs=>List.casesOn (motive:=fun _=>R) vs (ok (.tup []) h) (fun p r=>List.casesOn (motive:=fun _=>R) r (ob (jfa p.1 p.2) (fun v=>ok v h)) (fun _ _=>ok (.tup vs) h)))=_
 rw [jfj,jfj]
 cases jmr fr h r with
 | none=>rfl
 | some a=>cases jmr fr h r' with
  | none=>rfl
  | some b=>cases jgl fr h l<;>rfl
theorem qev {v:AV}:ok v h=some (v,h):=rfl
theorem jyh {es:List Ent} {hid:List (Nat×Nat)}:sel es [] hid=some hid:=rfl
theorem js5 {es:List Ent} {j:Nat} {js:List Nat} {hid:List (Nat×Nat)}:sel es (j::js) hid=ob (jec es j) (fun e=>ob (sel es js hid) (fun l=>Ent.casesOn (motive:=fun _=>Option (List (Nat×Nat))) e (fun iv _=>some (iv++l)))):=by
 show ob (jec es j) (fun e=>ob (sel es js hid) (fun l=>Ent.casesOn (motive:=fun _=>Option (List (Nat×Nat))) e (fun iv _=>some (jhj iv l))))=_
 simp only [jdd]
def fpV:AV->List Nat
 | .s (.ptr b _)=>[b]
 | _=>[]
theorem jyi {b o:Nat}:fpV (.s (.ptr b o))=[b]:=rfl
theorem j5n {cs:List SV}:fpV (.s (.cp cs))=[]:=rfl
theorem jv5 {es:List Ent} {dst:Option Nat} {n:Nat} {agg:Bool} {x:Od} {js:List Nat} {l:List (IOper×Option (List Nat))}:WD F ((.mk dst (.a (.load n agg x)) none,some js)::l) st es fr h Q=obP (sel es js h.hid) (fun hid'=>obP (ev st fr x) (fun p=>obP (jms (h.hide h.next hid') n agg p) (fun v=>WD F l (v::st) (.mk [] (some (fpV p))::es) (jce fr dst v) h Q))):=by
 cases h with
 | mk k t lo hid =>
 rw [j49 (x:=ob (sel es js hid) (fun hid'=>ob (ev st fr x) (fun p=>ob (jms (.mk k t k hid') n agg p) (fun v=>some (DR.mk v (.mk k t lo hid) (.mk [] (some (fpV p)))))))) (fun cl=>?_)]
 ·refine propext ⟨fun ⟨p,h1,h2⟩=>?_,fun ⟨hid',h0,q,h1,v,h2,h3⟩=>⟨.mk v (.mk k t lo hid) (.mk [] (some (fpV q))),jab.2 ⟨hid',h0,jab.2 ⟨q,h1,jab.2 ⟨v,h2,rfl⟩⟩⟩,h3⟩⟩
  obtain ⟨hid',h3,h4⟩:=jab.1 h1
  obtain ⟨q,h5,h6⟩:=jab.1 h4
  obtain ⟨v,h7,h8⟩:=jab.1 h6
  cases h8
  exact ⟨hid',h3,q,h5,v,h7,h2⟩
 ·show jmb cl st fr es (.mk k t lo hid) (.a (.load n agg x)) js=_
  show ob (sel es js hid) (fun hid'=>Cls.casesOn (motive:=fun _=>Option DR) (jvc (ob (ev st fr x) (fun v=>je9 v (fun b _=>some (Cls.load b)) (fun _=>some .quiet))) (fun c=>c))
   (jm1 cl st fr k t lo k hid hid' (.a (.load n agg x)) (fun n'=>.mk [(k,n')] (some [])))
   (fun x'=>jm1 cl st fr k t lo k hid hid' (.a (.load n agg x)) (fun _=>.mk [] (some [x'])))
   (fun b=>oif (jju es js b) (oif (Nat.ble lo b) (ob (Hp.get (.mk k t lo hid') b) (fun _=>jm1 cl st fr k t lo lo hid hid' (.a (.load n agg x)) (fun n'=>.mk [(b,Nat.succ b),(k,n')] none))) none) none)
   (jm1 cl st fr k t lo k hid hid' (.a (.load n agg x)) (fun _=>.mk [] (some [])))
   (jm1 cl st fr k t lo k hid hid' (.a (.load n agg x)) (fun n'=>.mk [(k,n')] none)))=_
  congr 1
  funext hid'
  have key:∀ e:Nat->Ent,jm1 cl st fr k t lo k hid hid' (.a (.load n agg x)) e=ob (ev st fr x) (fun p=>ob (jms (.mk k t k hid') n agg p) (fun v=>some (DR.mk v (.mk k t lo hid) (e k)))):=fun e=>by
   show ob (aop cl st fr (.mk k t k hid') (.load n agg x)) _=_
   rw [jjb (show AO.calls (.load n agg x)=false from rfl),j0p]
   cases ev st fr x with
   | none=>rfl
   | some p =>
    show ob (ob (jms (.mk k t k hid') n agg p) _) _=ob (jms (.mk k t k hid') n agg p) _
    cases jms (.mk k t k hid') n agg p<;>rfl
  have k1:=key (fun n'=>.mk [(k,n')] none)
  have k3:=key (fun _=>.mk [] (some []))
  have k2:=fun b=>key (fun _=>.mk [] (some [b]))
  cases hx:ev st fr x with
  | none =>
   rw [hx] at k1
   exact k1
  | some p =>
   rw [hx] at k1 k3
   simp only [hx] at k2
   cases p with
   | s p =>
    cases p with
    | ptr b o=>exact k2 b
    | cp cs=>exact k3
    | _=>exact k1
   | _=>exact k1
theorem jqq {es:List Ent} {dst:Option Nat} {e:TypeId} {size:Nat} {z:List SV} {len:Nat} {ps:List (Nat×Nat×Od)} {js:List Nat} {l:List (IOper×Option (List Nat))}:WD F ((.mk dst (.a (.bslice e size z len ps)) none,some js)::l) st es fr h Q=obP (sel es js h.hid) (fun hid'=>obP (fill st fr ps z) (fun cs=>jaq hid' h.next=false/\WD F l (.s (.slice h.next 0 len len true size)::st) (.mk [(h.next,h.next+1)] (some [])::es) (jce fr dst (.s (.slice h.next 0 len len true size))) (h.push (.arr cs e)) Q)):=by
 cases h with
 | mk k t lo hid =>
 rw [j49 (x:=ob (sel es js hid) (fun hid'=>ob (fill st fr ps z) (fun cs=>oif (jaq hid' k) none (some (DR.mk (.s (.slice k 0 len len true size)) ((Hp.mk k t lo hid).push (.arr cs e)) (.mk [(k,k+1)] (some []))))))) (fun cl=>?_)]
 ·refine propext ⟨fun ⟨p,h1,h2⟩=>?_,fun ⟨hid',h0,cs,h1,h2,h3⟩=>⟨DR.mk (.s (.slice k 0 len len true size)) ((Hp.mk k t lo hid).push (.arr cs e)) (.mk [(k,k+1)] (some [])),jab.2 ⟨hid',h0,jab.2 ⟨cs,h1,?_⟩⟩,h3⟩⟩
  ·obtain ⟨hid',h3,h4⟩:=jab.1 h1
   obtain ⟨cs,h5,h6⟩:=jab.1 h4
   rw [jas] at h6
   split at h6
   ·cases h6
   ·rename_i h7
    cases h6
    exact ⟨hid',h3,cs,h5,Bool.eq_false_iff.2 h7,h2⟩
  ·have h2':jaq hid' k=false:=h2
   rw [h2'];rfl
 ·show jmb cl st fr es (.mk k t lo hid) (.a (.bslice e size z len ps)) js=_
  show ob (sel es js hid) (fun hid'=>ob (ob (fill st fr ps z) (fun cs=>oif (jaq hid' k) none (ok (.s (.slice k 0 len len true size)) (Hp.mk (Nat.succ k) (t.put (Nat.succ k) k (some (.arr cs e))) k hid')))) (fun p=>Hp.casesOn (motive:=fun _=>Option DR) p.2 (fun n' t' _ _=>some (.mk p.1 (.mk n' t' lo hid) (.mk [(k,n')] (some []))))))=_
  congr 1
  funext hid'
  cases fill st fr ps z with
  | none=>rfl
  | some cs =>
   show ob (oif (jaq hid' k) none _) _=oif (jaq hid' k) none _
   cases jaq hid' k<;>rfl
end
section
variable {F:Fns} {s:St} {st fr:List AV} {h h':Hp} {Q:Ex->St->Prop} {l:List IOper} {dst:Option Nat} {v w:AV} {m:List (IOper×Option (List Nat))} {es:List Ent}
def zpO (F:Fns) (x:Option AV) (dst:Option Nat) (l:List IOper) (st fr:List AV) (h:Hp) (Q:Ex->St->Prop):Prop:=obP x (fun v=>WO F l (v::st) (jce fr dst v) h Q)
theorem js6:zpO F (some v) dst l st fr h Q=WO F l (v::st) (jce fr dst v) h Q:=jcl
def zmO (F:Fns) (x:R) (dst:Option Nat) (l:List IOper) (st fr:List AV) (Q:Ex->St->Prop):Prop:=obP x (fun p=>WO F l (p.1::st) (jce fr dst p.1) p.2 Q)
theorem js7:zmO F (some (v,h)) dst l st fr Q=WO F l (v::st) (jce fr dst v) h Q:=jcl
def qew (F:Fns) (dst:Option Nat) (l:List IOper) (st fr:List AV) (Q:Ex->St->Prop) (v:AV) (h:Hp):Prop:=WO F l (v::st) (jce fr dst v) h Q
theorem js8:qew F dst l st fr Q v h=WO F l (v::st) (jce fr dst v) h Q:=rfl
def zkO (F:Fns) (x:Option (List AV)) (f:FuncId) (dst:Option Nat) (l:List IOper) (st fr:List AV) (h:Hp) (Q:Ex->St->Prop):Prop:=obP x (fun vs=>WC F f vs h (qew F dst l st fr Q))
theorem js9 {vs:List AV} {f:FuncId}:zkO F (some vs) f dst l st fr h Q=WC F f vs h (qew F dst l st fr Q):=jcl
def zgO (F:Fns) (x:Option AV) (t:Bool) (dst:Option Nat) (op:IOp) (l:List IOper) (st fr:List AV) (h:Hp) (Q:Ex->St->Prop):Prop:=gP x t (WO F (.mk dst op none::l) st fr h Q) (WO F l (.undef::st) (jce fr dst .undef) h Q)
theorem jta {b t:Bool} {op:IOp}:zgO F (some (.s (.bool b))) t dst op l st fr h Q=if b=t then WO F (.mk dst op none::l) st fr h Q else WO F l (.undef::st) (jce fr dst .undef) h Q:=j47
theorem jpa {t:Bool} {op:IOp}:zgO F (some .undef) t dst op l st fr h Q=WO F l (.undef::st) (jce fr dst .undef) h Q:=j0o
def zcO (F:Fns) (x:Option AV) (a b:IC) (fr:List AV) (h:Hp) (Q:Ex->St->Prop):Prop:=qou x (W F a (.mk fr h) Q) (W F b (.mk fr h) Q)
theorem jtb {b:Bool} {x y:IC}:zcO F (some (.s (.bool b))) x y fr h Q=if b=true then W F x (.mk fr h) Q else W F y (.mk fr h) Q:=j42
theorem jyj {c:Od} {x y:IC}:W F (.cond c x y) (.mk fr h) Q=zcO F (ev [] fr c) x y fr h Q:=qk2
theorem jyk {o:PO}:WO F (.mk dst (.p o) none::l) st fr h Q=zpO F (pop st fr o) dst l st fr h Q:=qei
theorem jyl {f:FuncId} {as:List Od}:WO F (.mk dst (.a (.call f as)) none::l) st fr h Q=zkO F (evs st fr as) f dst l st fr h Q:=qej
theorem jtc {op:IOp} {i:Nat} {t:Bool}:WO F (.mk dst op (some (i,t))::l) st fr h Q=zgO F (jec st i) t dst op l st fr h Q:=j91
theorem j0r {x:Od} {as:List Od} {f:FuncId} {caps:List (Nat×Nat)} (hx:ev st fr x=some (.s (.func f caps))):WO F (.mk dst (.a (.callv x as)) none::l) st fr h Q=zkO F (ob (evs st fr as) (fun vs=>some (vs++jgj caps))) f dst l st fr h Q:=by
 rw [j90]
 refine propext ⟨fun ⟨g,cs,h1,vs,h2,h3⟩=>?_,fun ⟨vs,h1,h2⟩=>?_⟩
 ·rw [hx] at h1;cases h1
  exact ⟨_,jab.2 ⟨vs,h2,rfl⟩,h3⟩
 ·obtain ⟨us,h3,h4⟩:=jab.1 h1
  cases h4
  exact ⟨f,caps,hx,us,h3,h2⟩
def zpD (F:Fns) (x:Option AV) (e:Ent) (dst:Option Nat) (m:List (IOper×Option (List Nat))) (st:List AV) (es:List Ent) (fr:List AV) (h:Hp) (Q:Ex->St->Prop):Prop:=obP x (fun v=>WD F m (v::st) (e::es) (jce fr dst v) h Q)
theorem jtd {e:Ent}:zpD F (some v) e dst m st es fr h Q=WD F m (v::st) (e::es) (jce fr dst v) h Q:=jcl
def zmD (F:Fns) (x:R) (dst:Option Nat) (m:List (IOper×Option (List Nat))) (st:List AV) (es:List Ent) (fr:List AV) (Q:Ex->St->Prop):Prop:=obP x (fun p=>WD F m (p.1::st) (.mk [] (some [])::es) (jce fr dst p.1) p.2 Q)
theorem jte:zmD F (some (v,h)) dst m st es fr Q=WD F m (v::st) (.mk [] (some [])::es) (jce fr dst v) h Q:=jcl
def qex (F:Fns) (dst:Option Nat) (m:List (IOper×Option (List Nat))) (st:List AV) (es:List Ent) (fr:List AV) (Q:Ex->St->Prop) (v:AV) (h:Hp):Prop:=WD F m (v::st) (.mk [] (some [])::es) (jce fr dst v) h Q
theorem jtf:qex F dst m st es fr Q v h=WD F m (v::st) (.mk [] (some [])::es) (jce fr dst v) h Q:=rfl
def zkD (F:Fns) (x:Option (List AV)) (f:FuncId) (dst:Option Nat) (m:List (IOper×Option (List Nat))) (st:List AV) (es:List Ent) (fr:List AV) (h:Hp) (Q:Ex->St->Prop):Prop:=obP x (fun vs=>WC F f vs h (qex F dst m st es fr Q))
theorem jtg {vs:List AV} {f:FuncId}:zkD F (some vs) f dst m st es fr h Q=WC F f vs h (qex F dst m st es fr Q):=jcl
def zgD (F:Fns) (x:Option AV) (t:Bool) (dst:Option Nat) (op:IOp) (o:Option (List Nat)) (m:List (IOper×Option (List Nat))) (st:List AV) (es:List Ent) (fr:List AV) (h:Hp) (Q:Ex->St->Prop):Prop:=gP x t (WD F ((.mk dst op none,o)::m) st es fr h Q) (WD F m (.undef::st) (.mk [] (some [])::es) (jce fr dst .undef) h Q)
theorem jth {b t:Bool} {op:IOp} {o:Option (List Nat)}:zgD F (some (.s (.bool b))) t dst op o m st es fr h Q=if b=t then WD F ((.mk dst op none,o)::m) st es fr h Q else WD F m (.undef::st) (.mk [] (some [])::es) (jce fr dst .undef) h Q:=j47
theorem jpb {t:Bool} {op:IOp} {o:Option (List Nat)}:zgD F (some .undef) t dst op o m st es fr h Q=WD F m (.undef::st) (.mk [] (some [])::es) (jce fr dst .undef) h Q:=j0o
theorem jym {o:PO}:WD F ((.mk dst (.p o) none,none)::m) st es fr h Q=zpD F (pop st fr o) (.mk [] (some [])) dst m st es fr h Q:=qek
theorem jyn {f:FuncId} {as:List Od}:WD F ((.mk dst (.a (.call f as)) none,none)::m) st es fr h Q=zkD F (evs st fr as) f dst m st es fr h Q:=qel
theorem jti {op:IOp} {i:Nat} {t:Bool} {o:Option (List Nat)}:WD F ((.mk dst op (some (i,t)),o)::m) st es fr h Q=zgD F (jec st i) t dst op o m st es fr h Q:=j92
def qqv (F:Fns) (x:Option (List (Nat×Nat))) (o:Option AV) (dst:Option Nat) (m:List (IOper×Option (List Nat))) (st:List AV) (es:List Ent) (fr:List AV) (h:Hp) (Q:Ex->St->Prop):Prop:=obP x (fun _=>zpD F o (.mk [(h.next,h.next)] (some [])) dst m st es fr h Q)
theorem jpc {x:List (Nat×Nat)} {o:Option AV}:qqv F (some x) o dst m st es fr h Q=zpD F o (.mk [(h.next,h.next)] (some [])) dst m st es fr h Q:=jcl
theorem jh7 {o:PO} {js:List Nat}:WD F ((.mk dst (.p o) none,some js)::m) st es fr h Q=qqv F (sel es js h.hid) (pop st fr o) dst m st es fr h Q:=jv3
def qo0 (F:Fns) (x:Option (List (Nat×Nat))) (n:Nat) (agg:Bool) (p:Option AV) (dst:Option Nat) (m:List (IOper×Option (List Nat))) (st:List AV) (es:List Ent) (fr:List AV) (h:Hp) (Q:Ex->St->Prop):Prop:=obP x (fun hid'=>obP p (fun p=>zpD F (jms (h.hide h.next hid') n agg p) (.mk [] (some (fpV p))) dst m st es fr h Q))
theorem jpd {x:List (Nat×Nat)} {n:Nat} {agg:Bool}:qo0 F (some x) n agg (some w) dst m st es fr h Q=zpD F (jms (h.hide h.next x) n agg w) (.mk [] (some (fpV w))) dst m st es fr h Q:=by
 unfold qo0;rw [jcl,jcl]
theorem jh8 {n:Nat} {agg:Bool} {x:Od} {js:List Nat}:WD F ((.mk dst (.a (.load n agg x)) none,some js)::m) st es fr h Q=qo0 F (sel es js h.hid) n agg (ev st fr x) dst m st es fr h Q:=jv5
def qo1 (F:Fns) (x:Option (List (Nat×Nat))) (cs:Option (List SV)) (e:TypeId) (size len:Nat) (dst:Option Nat) (m:List (IOper×Option (List Nat))) (st:List AV) (es:List Ent) (fr:List AV) (h:Hp) (Q:Ex->St->Prop):Prop:=obP x (fun hid'=>obP cs (fun cs=>jaq hid' h.next=false/\WD F m (.s (.slice h.next 0 len len true size)::st) (.mk [(h.next,h.next+1)] (some [])::es) (jce fr dst (.s (.slice h.next 0 len len true size))) (h.push (.arr cs e)) Q))
theorem jpe {x:List (Nat×Nat)} {cs:List SV} {e:TypeId} {size len:Nat} (hx:jaq x h.next=false):qo1 F (some x) (some cs) e size len dst m st es fr h Q=WD F m (.s (.slice h.next 0 len len true size)::st) (.mk [(h.next,h.next+1)] (some [])::es) (jce fr dst (.s (.slice h.next 0 len len true size))) (h.push (.arr cs e)) Q:=by
 unfold qo1;rw [jcl,jcl];exact propext ⟨fun h=>h.2,fun h=>⟨hx,h⟩⟩
theorem jgf {e:TypeId} {size:Nat} {z:List SV} {len:Nat} {ps:List (Nat×Nat×Od)} {js:List Nat}:WD F ((.mk dst (.a (.bslice e size z len ps)) none,some js)::m) st es fr h Q=qo1 F (sel es js h.hid) (fill st fr ps z) e size len dst m st es fr h Q:=jqq
def qrj (F:Fns) (x:Option (List (Nat×Nat))) (u:AV) (dst:Option Nat) (m:List (IOper×Option (List Nat))) (st:List AV) (es:List Ent) (fr:List AV) (h:Hp) (Q:Ex->St->Prop):Prop:=obP x (fun _=>WD F m (u::st) (.mk [(h.next,h.next)] none::es) (jce fr dst u) h Q)
theorem jpf {x:List (Nat×Nat)} {u:AV}:qrj F (some x) u dst m st es fr h Q=WD F m (u::st) (.mk [(h.next,h.next)] none::es) (jce fr dst u) h Q:=jcl
theorem j5o {e:TypeId} {z:List SV}:WO F (.mk dst (.a (.new e z)) none::l) st fr h Q=zmO F (jd8 st fr h (.new e z)) dst l st fr Q:=jf5 rfl
theorem j5p {e:TypeId} {z:List SV}:WD F ((.mk dst (.a (.new e z)) none,none)::m) st es fr h Q=zmD F (jd8 st fr h (.new e z)) dst m st es fr Q:=jf6 rfl
theorem j5q {e:TypeId} {x:Od}:WO F (.mk dst (.a (.box e x)) none::l) st fr h Q=zmO F (jd8 st fr h (.box e x)) dst l st fr Q:=jf5 rfl
theorem j5r {e:TypeId} {x:Od}:WD F ((.mk dst (.a (.box e x)) none,none)::m) st es fr h Q=zmD F (jd8 st fr h (.box e x)) dst m st es fr Q:=jf6 rfl
theorem jpg {e:TypeId} {size:Nat} {z:List SV} {len:Nat} {ps:List (Nat×Nat×Od)}:WO F (.mk dst (.a (.bslice e size z len ps)) none::l) st fr h Q=zmO F (jd8 st fr h (.bslice e size z len ps)) dst l st fr Q:=jf5 rfl
theorem jph {e:TypeId} {size:Nat} {z:List SV} {len:Nat} {ps:List (Nat×Nat×Od)}:WD F ((.mk dst (.a (.bslice e size z len ps)) none,none)::m) st es fr h Q=zmD F (jd8 st fr h (.bslice e size z len ps)) dst m st es fr Q:=jf6 rfl
theorem jl0 {e:TypeId} {size bytes:Nat} {z:List SV} {x y:Od}:WO F (.mk dst (.a (.mkslice e size bytes z x y)) none::l) st fr h Q=zmO F (jd8 st fr h (.mkslice e size bytes z x y)) dst l st fr Q:=jf5 rfl
theorem jl1 {e:TypeId} {size bytes:Nat} {z:List SV} {x y:Od}:WD F ((.mk dst (.a (.mkslice e size bytes z x y)) none,none)::m) st es fr h Q=zmD F (jd8 st fr h (.mkslice e size bytes z x y)) dst m st es fr Q:=jf6 rfl
theorem jyo {n:Nat} {agg:Bool} {x:Od}:WO F (.mk dst (.a (.load n agg x)) none::l) st fr h Q=zmO F (jd8 st fr h (.load n agg x)) dst l st fr Q:=jf5 rfl
theorem jyp {n:Nat} {agg:Bool} {x:Od}:WD F ((.mk dst (.a (.load n agg x)) none,none)::m) st es fr h Q=zmD F (jd8 st fr h (.load n agg x)) dst m st es fr Q:=jf6 rfl
theorem jtj {n:Nat} {x y:Od}:WO F (.mk dst (.a (.store n x y)) none::l) st fr h Q=zmO F (jd8 st fr h (.store n x y)) dst l st fr Q:=jf5 rfl
theorem jtk {n:Nat} {x y:Od}:WD F ((.mk dst (.a (.store n x y)) none,none)::m) st es fr h Q=zmD F (jd8 st fr h (.store n x y)) dst m st es fr Q:=jf6 rfl
theorem j5s {e:TypeId} {size bytes:Nat} {x y:Od}:WO F (.mk dst (.a (.app e size bytes x y)) none::l) st fr h Q=zmO F (jd8 st fr h (.app e size bytes x y)) dst l st fr Q:=jf5 rfl
theorem j5t {e:TypeId} {size bytes:Nat} {x y:Od}:WD F ((.mk dst (.a (.app e size bytes x y)) none,none)::m) st es fr h Q=zmD F (jd8 st fr h (.app e size bytes x y)) dst m st es fr Q:=jf6 rfl
theorem jyq {size:Nat} {x y:Od}:WO F (.mk dst (.a (.copy size x y)) none::l) st fr h Q=zmO F (jd8 st fr h (.copy size x y)) dst l st fr Q:=jf5 rfl
theorem jyr {size:Nat} {x y:Od}:WD F ((.mk dst (.a (.copy size x y)) none,none)::m) st es fr h Q=zmD F (jd8 st fr h (.copy size x y)) dst m st es fr Q:=jf6 rfl
theorem jtl {z:List SV} {x:Od}:WO F (.mk dst (.a (.clear z x)) none::l) st fr h Q=zmO F (jd8 st fr h (.clear z x)) dst l st fr Q:=jf5 rfl
theorem jtm {z:List SV} {x:Od}:WD F ((.mk dst (.a (.clear z x)) none,none)::m) st es fr h Q=zmD F (jd8 st fr h (.clear z x)) dst m st es fr Q:=jf6 rfl
theorem jtn {va:Bool}:WO F (.mk dst (.a (.mkmap va)) none::l) st fr h Q=zmO F (jd8 st fr h (.mkmap va)) dst l st fr Q:=jf5 rfl
theorem jto {va:Bool}:WD F ((.mk dst (.a (.mkmap va)) none,none)::m) st es fr h Q=zmD F (jd8 st fr h (.mkmap va)) dst m st es fr Q:=jf6 rfl
theorem jys {sig:List Bool} {va:Bool} {z:List SV} {okf:Bool} {x k:Od}:WO F (.mk dst (.a (.look sig va z okf x k)) none::l) st fr h Q=zmO F (jd8 st fr h (.look sig va z okf x k)) dst l st fr Q:=jf5 rfl
theorem jyt {sig:List Bool} {va:Bool} {z:List SV} {okf:Bool} {x k:Od}:WD F ((.mk dst (.a (.look sig va z okf x k)) none,none)::m) st es fr h Q=zmD F (jd8 st fr h (.look sig va z okf x k)) dst m st es fr Q:=jf6 rfl
theorem jyu {sig:List Bool} {va:Bool} {x k y:Od}:WO F (.mk dst (.a (.mupd sig va x k y)) none::l) st fr h Q=zmO F (jd8 st fr h (.mupd sig va x k y)) dst l st fr Q:=jf5 rfl
theorem jyv {sig:List Bool} {va:Bool} {x k y:Od}:WD F ((.mk dst (.a (.mupd sig va x k y)) none,none)::m) st es fr h Q=zmD F (jd8 st fr h (.mupd sig va x k y)) dst m st es fr Q:=jf6 rfl
theorem jpi {n size:Nat} {x:Od}:WO F (.mk dst (.a (.slicea n size x)) none::l) st fr h Q=zmO F (jd8 st fr h (.slicea n size x)) dst l st fr Q:=jf5 rfl
theorem jpj {n size:Nat} {x:Od}:WD F ((.mk dst (.a (.slicea n size x)) none,none)::m) st es fr h Q=zmD F (jd8 st fr h (.slicea n size x)) dst m st es fr Q:=jf6 rfl
theorem jyw {size:Nat} {x:Od}:WO F (.mk dst (.a (.boxc size x)) none::l) st fr h Q=zmO F (jd8 st fr h (.boxc size x)) dst l st fr Q:=jf5 rfl
theorem jyx {size:Nat} {x:Od}:WD F ((.mk dst (.a (.boxc size x)) none,none)::m) st es fr h Q=zmD F (jd8 st fr h (.boxc size x)) dst m st es fr Q:=jf6 rfl
noncomputable def qqw (o:BO) (x y:Option AV):Option AV:=ob x (fun a=>ob y (fun b=>svc none a (fun a=>svc none b (fun b=>jem o a b))))
theorem j5u {o:BO} {x y:Od}:pop st fr (.bin o x y)=qqw o (ev st fr x) (ev st fr y):=rfl
theorem jpk {o:BO} {a b:SV}:qqw o (some (.s a)) (some (.s b))=jem o a b:=rfl
noncomputable def qo2 (off:Nat) (x:Option AV):Option AV:=ob x (fun v=>je9 v (fun b o=>some (.s (.ptr b (o+off)))) (fun cs=>some (.s (.cp (jb9 off cs)))))
theorem j5v {off:Nat} {x:Od}:pop st fr (.fld off x)=qo2 off (ev st fr x):=rfl
theorem jtp {off b o:Nat}:qo2 off (some (.s (.ptr b o)))=some (.s (.ptr b (o+off))):=rfl
theorem jyy {off:Nat} {cs:List SV}:qo2 off (some (.s (.cp cs)))=some (.s (.cp (jb9 off cs))):=rfl
noncomputable def qey (x:Option AV):Option AV:=ob x (fun v=>je9 v (fun b o=>some (.s (.ptr b o))) (fun cs=>some (.s (.cp cs))))
theorem jyz {x:Od}:pop st fr (.nchk x)=qey (ev st fr x):=rfl
theorem jpl {b o:Nat}:qey (some (.s (.ptr b o)))=some (.s (.ptr b o)):=rfl
theorem jtq {cs:List SV}:qey (some (.s (.cp cs)))=some (.s (.cp cs)):=rfl
noncomputable def qqx (x:Option AV):Option AV:=ob x ju6
theorem j5w {x:Od}:pop st fr (.len x)=qqx (ev st fr x):=rfl
theorem jpm:qqx (some v)=ju6 v:=rfl
noncomputable def qqy (size:Nat) (x y:Option AV):Option AV:=ob x (fun v=>ob y (fun w=>jxh size v w))
theorem j5x {size:Nat} {x i:Od}:pop st fr (.ixs size x i)=qqy size (ev st fr x) (ev st fr i):=rfl
theorem jpn {size:Nat}:qqy size (some v) (some w)=jxh size v w:=rfl
noncomputable def qqz (n size:Nat) (x y:Option AV):Option AV:=ob x (fun v=>ob y (fun w=>qby n size v w))
theorem j5y {n size:Nat} {x i:Od}:pop st fr (.ixa n size x i)=qqz n size (ev st fr x) (ev st fr i):=rfl
theorem jpo {n size:Nat}:qqz n size (some v) (some w)=qby n size v w:=rfl
noncomputable def qk5 (x:Option AV) (a b:Od) (st fr:List AV):Option AV:=ob x (fun v=>ji3 v (fun t=>ev st fr (oif t a b)))
theorem jy0 {c a b:Od}:pop st fr (.pick c a b)=qk5 (ev st fr c) a b st fr:=rfl
theorem jl2 {t:Bool} {a b:Od}:qk5 (some (.s (.bool t))) a b st fr=if t=true then ev st fr a else ev st fr b:=by cases t<;>rfl
noncomputable def qq0 (i:Nat) (x:Option AV):Option AV:=ob x (fun v=>AV.casesOn (motive:=fun _=>Option AV) v (fun _=>none) (fun _=>none) (fun l=>ob (jec l i) (fun p=>jfa p.1 p.2)) none none)
theorem j5z {i:Nat} {x:Od}:pop st fr (.ext i x)=qq0 i (ev st fr x):=rfl
noncomputable def mk1 (p:Option (Bool×List SV)):Option AV:=ob p (fun p=>jfa p.1 p.2)
theorem jtr {a:Bool} {l:List SV}:mk1 (some (a,l))=jfa a l:=rfl
theorem jts {i:Nat} {l:List (Bool×List SV)}:qq0 i (some (.tup l))=mk1 (jec l i):=rfl
noncomputable def ldR (h:Hp) (agg:Bool) (cs:Option (List SV)):R:=ob cs (fun cs=>ob (jfa agg cs) (fun v=>ok v h))
theorem qez {cs:List SV}:ldR h true (some cs)=some (.agg cs,h):=rfl
theorem qe0 {a:SV}:ldR h false (some [a])=some (.s a,h):=rfl
noncomputable def qe1 (h:Hp) (n:Nat) (agg:Bool) (x:Option AV):R:=ob x (fun v=>ob (jms h n agg v) (fun v=>ok v h))
theorem jy1 {n:Nat} {agg:Bool} {x:Od}:jd8 st fr h (.load n agg x)=qe1 h n agg (ev st fr x):=j0p
theorem jpp {n b o:Nat} {agg:Bool}:qe1 h n agg (some (.s (.ptr b o)))=ldR h agg (rdB (h.get b) o n):=by
 show ob (ob (rdB (h.get b) o n) _) _=_
 rw [qes];rfl
theorem jtt {n:Nat} {cs:List SV} {agg:Bool}:qe1 h n agg (some (.s (.cp cs)))=ldR h agg (jby n cs):=by
 show ob (ob (jby n cs) _) _=_
 rw [qes];rfl
noncomputable def j50 (h:Hp) (n:Nat) (x y:Option AV):R:=ob x (fun p=>ob y (fun v=>j5m h n p v))
theorem jtu {n:Nat} {x v:Od}:jd8 st fr h (.store n x v)=j50 h n (ev st fr x) (ev st fr v):=rfl
noncomputable def stR (h:Option Hp):R:=ob h (fun h=>ok .undef h)
theorem jtv:stR (some h)=some (.undef,h):=rfl
theorem jeu {b o:Nat} {x:SV} (k:Ok h):j50 h 1 (some (.s (.ptr b o))) (some (.s x))=stR (wrB h b (h.get b) o [x]):=j97 k
theorem jc5 {n b o:Nat} {cs:List SV} (k:Ok h) (hn:cs.length=n):j50 h n (some (.s (.ptr b o))) (some (.agg cs))=stR (wrB h b (h.get b) o cs):=j2w k hn
noncomputable def qq1 (h:Hp) (e:TypeId) (size bytes:Nat) (x y:Option AV):R:=ob x (fun v=>ob y (fun w=>jo9 h e size bytes v w))
theorem j51 {e:TypeId} {size bytes:Nat} {x y:Od}:jd8 st fr h (.app e size bytes x y)=qq1 h e size bytes (ev st fr x) (ev st fr y):=rfl
theorem jpq {e:TypeId} {size bytes:Nat}:qq1 h e size bytes (some v) (some w)=jo9 h e size bytes v w:=rfl
noncomputable def bsO (h:Hp) (e:TypeId) (size len:Nat) (x:Option (List SV)):R:=ob x (fun cs=>some (.s (.slice h.next 0 len len true size),h.push (.arr cs e)))
theorem jtw {e:TypeId} {size len:Nat} {cs:List SV}:bsO h e size len (some cs)=some (.s (.slice h.next 0 len len true size),h.push (.arr cs e)):=rfl
theorem jds {e:TypeId} {size:Nat} {z:List SV} {len:Nat} {ps:List (Nat×Nat×Od)} (k:Ok h):jd8 st fr h (.bslice e size z len ps)=bsO h e size len (fill st fr ps z):=j2x k
noncomputable def qo3 (h:Hp) (e:TypeId) (x:Option AV):R:=ob x (fun v=>cel v (fun cs=>some (.s (.ptr h.next 0),h.push (.arr cs e))))
theorem jki {e:TypeId} {x:Od} (k:Ok h):jd8 st fr h (.box e x)=qo3 h e (ev st fr x):=qet k
theorem j52 {e:TypeId} {x:SV}:qo3 h e (some (.s x))=some (.s (.ptr h.next 0),h.push (.arr [x] e)):=rfl
theorem jtx {e:TypeId} {cs:List SV}:qo3 h e (some (.agg cs))=some (.s (.ptr h.next 0),h.push (.arr cs e)):=rfl
noncomputable def qq2 (h:Hp) (e:TypeId) (size bytes:Nat) (z:List SV) (x y:Option AV):R:=ob x (fun v=>ob y (fun u=>qn6 h e size bytes z v u))
theorem jl3 {e:TypeId} {size bytes:Nat} {z:List SV} {l c:Od}:jd8 st fr h (.mkslice e size bytes z l c)=qq2 h e size bytes z (ev st fr l) (ev st fr c):=rfl
theorem jpr {e:TypeId} {size bytes:Nat} {z:List SV}:qq2 h e size bytes z (some v) (some w)=qn6 h e size bytes z v w:=rfl
noncomputable def re1 (h:Hp) (x:Option (Bool×List SV)):R:=ob x (fun p=>ob (jfa p.1 p.2) (fun v=>some (v,h)))
theorem j53 {r:IR}:jcf (.mk fr h) [r]=re1 h (jmr fr h r):=j2y
theorem qe2 {a:SV}:re1 h (some (false,[a]))=some (.s a,h):=rfl
theorem qe3 {l:List SV}:re1 h (some (true,l))=some (.agg l,h):=rfl
noncomputable def reT (g:Option AV):Option (Bool×List SV):=ob g qri
theorem j54 {g:Nat}:jmr fr h (.tmp g)=reT (jec fr g):=rfl
theorem qe4 {x:SV}:reT (some (.s x))=some (false,[x]):=rfl
theorem jy2 {x:List SV}:reT (some (.agg x))=some (true,x):=rfl
noncomputable def reC (h:Hp) (n:Nat) (agg:Bool) (g:Option AV):Option (Bool×List SV):=ob g (fun v=>jr3 v (fun b off=>ob (rdB (h.get b) off n) (fun cs=>some (agg,cs))))
theorem jy3 {g n:Nat} {agg:Bool}:jmr fr h (.cell g n agg)=reC h n agg (jec fr g):=rfl
noncomputable def reP (agg:Bool) (x:Option (List SV)):Option (Bool×List SV):=ob x (fun cs=>some (agg,cs))
theorem jty {agg:Bool} {cs:List SV}:reP agg (some cs)=some (agg,cs):=rfl
theorem jy4 {n b o:Nat} {agg:Bool}:reC h n agg (some (.s (.ptr b o)))=reP agg (rdB (h.get b) o n):=rfl
def qo4 (x:R) (Q:AV->Hp->Prop):Prop:=obP x (fun p=>Q p.1 p.2)
theorem jps {Q:AV->Hp->Prop}:qo4 (some (v,h)) Q=Q v h:=jcl
theorem jjh {res:List IR} {Q:AV->Hp->Prop}:qbv res Q .normal s=qo4 (jcf s res) Q:=rfl
theorem jtz {res:List IR} {Q:AV->Hp->Prop}:qbv res Q .ret s=qo4 (jcf s res) Q:=rfl
noncomputable def re2 (h:Hp) (x:Option (List (Bool×List SV))):R:=ob x (fun vs=>some (.tup vs,h))
theorem jt0 {l:List (Bool×List SV)}:re2 h (some l)=some (.tup l,h):=rfl
theorem j55 {r r':IR} {k:List IR}:jcf (.mk fr h) (r::r'::k)=re2 h (jgl fr h (r::r'::k)):=j2z
theorem jcn {size b off len mc sz:Nat} {ex:Bool} (hm:1<len):jxh size (.s (.slice b off len mc ex sz)) (vi 1)=some (.s (.ptr b (off+size))):=by
 have:=jbf (size:=size) (b:=b) (off:=off) (len:=len) (mc:=mc) (sz:=sz) (ex:=ex) hm
 rw [Nat.one_mul] at this;exact this
theorem jdt {n size b off:Nat} (hm:0<n):qby n size (.s (.ptr b off)) (vi 0)=some (.s (.ptr b off)):=by
 have:=jct (n:=n) (size:=size) (b:=b) (off:=off) hm
 rw [Nat.zero_mul,Nat.add_zero] at this;exact this
theorem jdu {n size b off:Nat} (hm:1<n):qby n size (.s (.ptr b off)) (vi 1)=some (.s (.ptr b (off+size))):=by
 have:=jct (n:=n) (size:=size) (b:=b) (off:=off) hm
 rw [Nat.one_mul] at this;exact this
theorem jev {n size:Nat} {cs:List SV} (hm:0<n):qby n size (.s (.cp cs)) (vi 0)=some (.s (.cp cs)):=by
 have:=jfi (n:=n) (size:=size) (cs:=cs) hm
 rw [Nat.zero_mul] at this;exact this
theorem jew {n size:Nat} {cs:List SV} (hm:1<n):qby n size (.s (.cp cs)) (vi 1)=some (.s (.cp (jb9 size cs))):=by
 have:=jfi (n:=n) (size:=size) (cs:=cs) hm
 rw [Nat.one_mul] at this;exact this
theorem jkj (k:Ok h):h.hid=[]:=k.hid
noncomputable def mkL (agg:Bool) (x:Option (List SV)):Option AV:=ob x (fun cs=>jfa agg cs)
theorem qe5 {cs:List SV}:mkL true (some cs)=some (.agg cs):=rfl
theorem qe6 {a:SV}:mkL false (some [a])=some (.s a):=rfl
theorem j56 {n b o:Nat} {agg:Bool}:jms h n agg (.s (.ptr b o))=mkL agg (rdB (h.get b) o n):=rfl
theorem qe7 {n:Nat} {cs:List SV} {agg:Bool}:jms h n agg (.s (.cp cs))=mkL agg (jby n cs):=rfl
theorem qe8 {a b:Int} (h1:0<=a) (h3:0<b):0<=a % b/\a % b<=a:=by
 have h2:=Int.emod_add_mul_ediv a b
 have h:=Int.ediv_nonneg h1 (Int.le_of_lt h3)
 have h4:=Int.mul_nonneg (Int.le_of_lt h3) h
 exact ⟨Int.emod_nonneg a (by omega),by omega⟩
theorem jfk {a b:Int} (h1:0<=a) (h2:a<=9223372036854775807) (h3:0<b):jem .rem (.int .i64 a) (.int .i64 b)=some (vi (a % b)):=by
 have:=qe8 h1 h3
 rw [jye,if_neg (by omega),Int.tmod_eq_emod_of_nonneg h1,jim (by omega) (by omega)]
theorem j57 {a b:Int} (h1:-9223372036854775808<=a) (h2:a<=9223372036854775807) (h3:0<b):-9223372036854775808<=a.tdiv b/\a.tdiv b<=9223372036854775807:=by
 have h:=Int.natAbs_tdiv_le_natAbs a b
 rcases (by omega:a<0∨0<=a) with h4 | h4
 ·have h5:a.tdiv b<=0:=by
   obtain ⟨c,rfl⟩:∃ c,a=-c:=⟨-a,by omega⟩
   rw [Int.neg_tdiv]
   have:=Int.tdiv_nonneg (a:=c) (b:=b) (by omega) (Int.le_of_lt h3)
   omega
  omega
 ·omega
theorem jji {a b:Int} (h1:-9223372036854775808<=a) (h2:a<=9223372036854775807) (h3:0<b):jem .quo (.int .i64 a) (.int .i64 b)=some (vi (a.tdiv b)):=by
 have:=j57 h1 h2 h3
 rw [qep,if_neg (by omega),jim this.1 this.2]
theorem jjj {a n:Int} {k:IntKind} (h1:0<=n) (h2:n<=63):jem .shr (.int .i64 a) (.int k n)=some (vi (a / 2 ^ n.toNat)):=by
 obtain ⟨m,rfl⟩:=Int.eq_ofNat_of_zero_le h1
 exact qeq (by omega)
theorem jex {a n:Nat}:(a=a+(n+1))=False:=eq_false (by omega)
theorem jey {a n:Nat}:(a+(n+1)=a)=False:=eq_false (by omega)
theorem jez {e:TypeId} {bytes:Nat} {x:SV} (ok:Ok h) (h1:bytes<=1000):qn6 h e 1 bytes [x] (vi 2) (vi 2)=some (.s (.slice h.next 0 2 2 true 1),h.push (.arr [x,x] e)) :=
 jyg (m:=2) ok (by omega) (by omega)
theorem jjq {a b:Nat} (h:a≠b):(a=b)=False:=eq_false h
theorem jdm {a b:Nat} (h:b<a):(a<=b)=False:=eq_false (by omega)
theorem jdn {a b:Nat} (h:b<=a):(a<b)=False:=eq_false (by omega)
theorem jjr {a b:Nat} (h:a<=b):(a<=b)=True:=eq_true h
theorem jjs {a b:Nat} (h:a<b):(a<b)=True:=eq_true h
theorem qrk {a b:Int} (h:a<=b):(a<=b)=True:=eq_true h
theorem qrl {a b:Int} (h:a<b):(a<b)=True:=eq_true h
def qe9 (F:Fns) (dst:Option Nat) (m:List (IOper×Option (List Nat))) (st:List AV) (es:List Ent) (fr:List AV) (h:Hp) (Q:Ex->St->Prop) (v:AV) (h':Hp):Prop:=WD F m (v::st) (.mk [(h.next,h'.next)] none::es) (jce fr dst v) (.mk h'.next h'.tr h.lo h.hid) Q
def zkH (F:Fns) (x:Option (List (Nat×Nat))) (vs:Option (List AV)) (f:FuncId) (dst:Option Nat) (m:List (IOper×Option (List Nat))) (st:List AV) (es:List Ent) (fr:List AV) (h:Hp) (Q:Ex->St->Prop):Prop:=obP x (fun hid'=>obP vs (fun vs=>WC F f vs (h.hide h.next hid') (qe9 F dst m st es fr h Q)))
theorem jt1 {x:List (Nat×Nat)} {vs:List AV} {f:FuncId}:zkH F (some x) (some vs) f dst m st es fr h Q=WC F f vs (h.hide h.next x) (qe9 F dst m st es fr h Q):=by
 unfold zkH;rw [jcl,jcl]
theorem jl4 {lo:Nat} {x:List (Nat×Nat)}:qe9 F dst m st es fr h Q v (h.hide lo x)=WD F m (v::st) (.mk [(h.next,h.next)] none::es) (jce fr dst v) h Q:=by cases h;rfl
theorem jhb {f:FuncId} {as:List Od} {js:List Nat}:WD F ((.mk dst (.a (.call f as)) none,some js)::m) st es fr h Q=zkH F (sel es js h.hid) (evs st fr as) f dst m st es fr h Q:=by
 cases h with
 | mk k t lo hid =>
 rw [jop]
 have key:∀ n v h' e,jxf (jbr F (run F n)) st fr es (.mk k t lo hid) (.a (.call f as)) none (some js)=some (.mk v h' e)↔∃ x vs h1,sel es js hid=some x/\evs st fr as=some vs/\jbr F (run F n) f vs (.mk k t k x)=some (v,h1)/\h'=.mk h1.next h1.tr lo hid/\e=.mk [(k,h1.next)] none:=fun n v h' e=>by
  have e0:jxf (jbr F (run F n)) st fr es (.mk k t lo hid) (.a (.call f as)) none (some js)=ob (sel es js hid) (fun x=>ob (ob (evs st fr as) (fun vs=>jbr F (run F n) f vs (.mk k t k x))) (fun p=>Hp.casesOn (motive:=fun _=>Option DR) p.2 (fun n' t' _ _=>some (.mk p.1 (.mk n' t' lo hid) (.mk [(k,n')] none))))):=rfl
  rw [e0]
  constructor
  ·intro h1
   obtain ⟨x,hx,h2⟩:=jab.1 h1
   obtain ⟨p,hp,h3⟩:=jab.1 h2
   obtain ⟨vs,hvs,h4⟩:=jab.1 hp
   obtain ⟨v1,⟨n1,t1,l1,d1⟩⟩:=p
   cases h3
   exact ⟨x,vs,_,hx,hvs,h4,rfl,rfl⟩
  ·rintro ⟨x,vs,⟨n1,t1,l1,d1⟩,hx,hvs,h4,rfl,rfl⟩
   exact jab.2 ⟨x,hx,jab.2 ⟨(v,.mk n1 t1 l1 d1),jab.2 ⟨vs,hvs,h4⟩,rfl⟩⟩
 refine propext ⟨fun ⟨n,v,h',e,h1,h2⟩=>?_,fun ⟨x,hx,vs,hvs,n,v,h1,h2,h3⟩=>⟨n,v,_,_,(key n v _ _).2 ⟨x,vs,h1,hx,hvs,h2,rfl,rfl⟩,h3⟩⟩
 obtain ⟨x,vs,h3,hx,hvs,h4,rfl,rfl⟩:=(key n v h' e).1 h1
 exact ⟨x,hx,vs,hvs,n,v,h3,h4,h2⟩
theorem jde {a:Nat} {n:Nat}:((a:Int) / 2 ^ n)=((a / 2 ^ n:Nat):Int):=by
 rw [Int.natCast_ediv,Int.natCast_pow];rfl
theorem jdf {i:Nat}:(4+(i:Int)).toNat=4+i:=by omega
theorem jdg {i:Nat}:(9+(i:Int)).toNat=9+i:=by omega
theorem jdh {i:Nat}:(i:Int).toNat=i:=by omega
theorem jjk {a:Nat}:decide ((a:Int) % 2=1)=decide (a % 2=1):=decide_eq_decide.2 (by omega)
theorem jfl {a:Nat}:(a:Int).tdiv 4=((a / 4:Nat):Int):=rfl
theorem jfm {a:Nat}:(a:Int).tdiv 5=((a / 5:Nat):Int):=rfl
theorem jgw {x:Option AB} {off sz j:Nat} {row:List SV} {c:SV} (hr:rdB x off sz=some row) (hj:row[j]?=some c):rdB x (off+j) 1=some [c]:=by
 cases x with
 | none=>cases hr
 | some x =>
  cases x with
  | map va es=>cases hr
  | arr cs ty =>
   rw [jfh,jbz] at hr ⊢
   obtain ⟨h1,rfl⟩:=(ja6 _).1 hr
   have hjs:j<sz:=by
    rcases Nat.lt_or_ge j sz with h | h
    ·exact h
    ·rw [List.getElem?_eq_none (by simp;omega)] at hj;cases hj
   have hj2:cs[off+j]?=some c:=by
    rw [List.getElem?_take,if_pos hjs,List.getElem?_drop] at hj;exact hj
   have hl:off+j<cs.length:=by
    rcases Nat.lt_or_ge (off+j) cs.length with h | h
    ·exact h
    ·rw [List.getElem?_eq_none h] at hj2;cases hj2
   refine (ja6 _).2 ⟨by simp;omega,?_⟩
   have e:cs.drop (off+j)=c::cs.drop (off+j+1):=by
    rw [List.drop_eq_getElem_cons hl]
    rw [List.getElem?_eq_getElem hl] at hj2
    rw [Option.some.inj hj2]
   rw [e];rfl
noncomputable def mmV (mx:Bool) (x y:Option AV):Option AV:=ob x (fun a=>ob y (fun b=>jm0 a (fun k m=>jm0 b (fun k' n=>oif (Nat.beq (ikn k) (ikn k')) (some (.s (.int k (oif (ile m n) (oif mx n m) (oif mx m n))))) none))))
theorem qfa {mx:Bool} {x y:Od}:pop st fr (.mm mx x y)=mmV mx (ev st fr x) (ev st fr y):=rfl
theorem jy5 {a b:Int}:mmV false (some (.s (.int .i64 a))) (some (.s (.int .i64 b)))=some (vi (if a<=b then a else b)):=by
 show some (AV.s (.int .i64 (oif (ile a b) a b)))=_
 rw [jas,jdo];simp only [decide_eq_true_eq]
theorem jy6 {a b:Int}:mmV true (some (.s (.int .i64 a))) (some (.s (.int .i64 b)))=some (vi (if a<=b then b else a)):=by
 show some (AV.s (.int .i64 (oif (ile a b) b a)))=_
 rw [jas,jdo];simp only [decide_eq_true_eq]
end
attribute [go_sem] jhb jt1 jl4 j43 qeh j44 j9z jx3 jyj jtb jsr j45 j46 jyk js6 jyl js9 js8 jtc jta jpa js7 j48 jym jtd jte jyn jtg jtf jti jth jpb jh7 jpc jh8 jpd jgf jpf jpe jf4 jll jol jja jom jsq jh4 jlm jon j5o j5q jpg jl0 jyo jtj j5s jyq jtl jtn jys jyu jpi jyw j5p j5r jph jl1 jyp jtk j5t jyr jtm jto jyt jyv jpj jyx qov qow qox jx4 jss jos jot jou jov jow jox jjd jje qoy qoz jbk qen joy jst jlp jsu jlq qeo jx5 j5b j5c j5d jsv jlr jls jlt jlu joz jsw jo0 jo1 jlv jh5 jdk jo2 jx6 jx7 qfa jy5 jy6 j5e jy0 jl2 jo3 jsx jo4 j5u jpk jx8 jx9 j5v jtp jyy jsy j5z jts jtr jyz jpl jtq jsz jkg js0 jo5 jlw jjf jo6 js1 js2 j5w jpm js3 jkh jlx jo7 jyb jyc jyd jji jfk jjj j5g j5h j5i j5j j5k j5l j5x jpn j5y jpo j53 qe2 qe3 j54 qe4 jy2 jy3 jty jy4 jps jjh jtz jly jfj jlz j55 jt0 qev jfh jo8 jy1 jpp jtt qez qe0 jtu jtv jl3 jpr j51 jpq jtw j52 jtx jyi j5n jyh js5 jaa jjg j56 qe7 qe5 qe6 jex jey jcn jct jfi jdt jdu jev jew jkj jet jds jki jha jeu jc5 jau jak jez jcm jbf
end Go.Proofs.Ytaljcpoopmedmaa.Ev
