/- Open runs: what operations answer at values that are known in part. No program in sight. -/
import Derived.Test.YtdbklpgagdbpiaaDoorOp
namespace Go.Proofs.YtdbklpgagdbpiaaDoor.Ev
noncomputable section
open Go Go.RowKit
set_option linter.all false
variable {t va agg ex' okf:Bool} {rows:List (List SV)} {vs:List AV} {sig:List Bool} {js:List Nat} {z xs row:List SV} {g i j o b' lo o' mc' sz' bytes:Nat} {u y:SV}
abbrev vi (n:Int):AV:=.s (.int .i64 n)
abbrev vb (b:Bool):AV:=.s (.bool b)
abbrev si (n:Int):SV:=.int .i64 n
section
variable {st fr:List AV} {h:Hp} {α β:Type}
theorem qtj:ev st fr (.l i)=jec st i:=rfl
theorem qtk:ev st fr (.g i)=jec fr i:=rfl
theorem qtl {v:AV}:ev st fr (.c v)=some v:=rfl
theorem jz5:evs st fr []=some []:=rfl
theorem jt3 {o:Od} {l:List Od}:evs st fr (o::l)=ob (ev st fr o) (fun v=>ob (evs st fr l) (fun r=>some (v::r))):=rfl
theorem jp4 {a:α} {l:List α}:jec (a::l) 0=some a:=rfl
theorem jp5 {a:α} {l:List α} {n:Nat}:jec (a::l) (n+1)=jec l n:=rfl
theorem jp6 {a x:α} {l:List α}:jr8 (a::l) 0 x=x::l:=rfl
theorem jp7 {a x:α} {l:List α} {n:Nat}:jr8 (a::l) (n+1) x=a::jr8 l n x:=rfl
theorem jp8 {v:AV}:jcn fr none v=fr:=rfl
theorem jp9 {d:Nat} {v:AV}:jcn fr (some d) v=jr8 fr d v:=rfl
theorem jjq:jdg 0=[]:=rfl
theorem jjr {n:Nat}:jdg (n+1)=.undef::jdg n:=rfl
theorem qil {a:α} {f:α->Option β}:ob (some a) f=f a:=rfl
theorem qtm {f:α->Option β}:ob none f=none:=rfl
theorem jbn {b:Bool} {x y:α}:oif b x y=if b=true then x else y:=by cases b<;>rfl
theorem qim {e:Option β} {x:SV} {f:SV->Option β}:svc e (.s x) f=f x:=rfl
theorem jqa {e:Option β} {f:SV->Option β}:svc e .undef f=e:=rfl
theorem jt4 {k:IntKind} {n:Int} {f:IntKind->Int->Option β}:j6c (.int k n) f=f k n:=rfl
theorem jmk {b:Bool} {f:Bool->Option β}:jnu (.bool b) f=f b:=rfl
theorem jt5 {k:IntKind} {n:Int} {f:IntKind->Int->Option β}:jn3 (.s (.int k n)) f=f k n:=rfl
theorem jml {b:Bool} {f:Bool->Option β}:jhe (.s (.bool b)) f=f b:=rfl
theorem qin {x:SV} {f:List SV->Option β}:cel (.s x) f=f [x]:=rfl
theorem jz6 {l:List SV} {f:List SV->Option β}:cel (.agg l) f=f l:=rfl
theorem j71 {a:SV}:jfg false [a]=some (.s a):=rfl
theorem j72 {l:List SV}:jfg true l=some (.agg l):=rfl
theorem j73 {x:SV} {f:List SV->Option β}:jy7 false (.s x) f=f [x]:=rfl
theorem jt6 {l:List SV} {f:List SV->Option β}:jy7 true (.agg l) f=f l:=rfl
theorem jmm {l:List α}:jbp 0 l=some []:=rfl
theorem jmn {a:α} {l:List α} {n:Nat}:jbp (n+1) (a::l)=ob (jbp n l) (fun x=>some (a::x)):=rfl
theorem jmo {l:List α}:jb4 0 l=l:=rfl
theorem jmp {a:α} {l:List α} {n:Nat}:jb4 (n+1) (a::l)=jb4 n l:=rfl
theorem jqb {n:Nat}:jb4 n ([]:List α)=[]:=by cases n<;>rfl
theorem jt7:jb2 ([]:List α)=0:=rfl
theorem jqc {a:α} {l:List α}:jb2 (a::l)=jb2 l+1:=rfl
theorem jqd {l:List α}:jor [] l=some l:=rfl
theorem jmq {x a:α} {xs l:List α}:jor (x::xs) (a::l)=ob (jor xs l) (fun y=>some (x::y)):=rfl
theorem jij {xs l:List α}:jbv 0 xs l=jor xs l:=rfl
theorem jdu {a:α} {xs l:List α} {n:Nat}:jbv (n+1) xs (a::l)=ob (jbv n xs l) (fun y=>some (a::y)):=rfl
theorem jqe {a:Nat}:Nat.beq a a=true:=f1l a
theorem jz7 {a b:Nat}:(Nat.beq a b=true)=(a=b):=jgt a b
theorem jz8 {a b:Nat}:(Nat.ble a b=true)=(a<=b):=jtj a b
theorem j74 {x:Od}:pop st fr (.mv x)=ev st fr x:=rfl
theorem jqf {ps:List (Nat×Nat×Od)}:pop st fr (.build z ps)=ob (fill st fr ps z) (fun cs=>some (.agg cs)):=rfl
theorem jt8 {cs:List SV}:fill st fr [] cs=some cs:=rfl
theorem jqg {off n:Nat} {o:Od} {ps:List (Nat×Nat×Od)} {cs:List SV}:fill st fr ((off,n,o)::ps) cs=ob (ev st fr o) (fun v=>cel v (fun xs=>oif (Nat.beq (jb2 xs) n) (ob (jbv off xs cs) (fill st fr ps)) none)):=rfl
theorem jz9 {x:Od}:pop st fr (.not x)=ob (ev st fr x) (fun v=>jhe v (fun b=>some (.s (.bool (!b))))):=by
 show ob (ev st fr x) (fun v=>jhe v (fun b=>some (AV.s (.bool (jhd b)))))=_
 congr 1;funext v;congr 1;funext b;cases b<;>rfl
theorem j0a {x:Od}:pop st fr (.neg x)=ob (ev st fr x) (fun v=>jn3 v (fun k n=>j6a k (-n))):=rfl
theorem jt9 {off n:Nat} {x:Od}:pop st fr (.fval off n agg x)=ob (ev st fr x) (fun v=>AV.casesOn (motive:=fun _=>Option AV) v (fun _=>none) (fun cs=>ob (jbp n (jb4 off cs)) (fun cs=>jfg agg cs)) (fun _=>none) none none):=rfl
theorem jua {k:IntKind} {x:Od}:pop st fr (.conv k x)=ob (ev st fr x) (fun v=>jn3 v (fun _ n=>qcb k n)):=rfl
theorem jkx {f:FuncId} {cs:List Od}:pop st fr (.mkfun f cs)=ob (evs st fr cs) (fun vs=>ob (qez vs) (fun ps=>some (.s (.func f ps)))):=rfl
theorem jub:qez []=some []:=rfl
theorem jqh {b:Nat} {l:List AV}:qez (.s (.ptr b o)::l)=ob (qez l) (fun r=>some ((b,o)::r)):=rfl
theorem jmr:jgq []=[]:=rfl
theorem jjs {b:Nat} {l:List (Nat×Nat)}:jgq ((b,o)::l)=.s (.ptr b o)::jgq l:=rfl
theorem jqi {b:Nat} {f:Nat->Nat->Option β} {g:List SV->Option β}:jev (.s (.ptr b o)) f g=f b o:=rfl
theorem juc {cs:List SV} {f:Nat->Nat->Option β} {g:List SV->Option β}:jev (.s (.cp cs)) f g=g cs:=rfl
theorem jud {b:Nat} {f:Nat->Nat->Option β}:jws (.s (.ptr b o)) f=f b o:=rfl
def j0b (v:AV):Option AV:=jcz v (some (.s (.int .i64 0))) (fun _ _ n _ _ _=>some (.s (.int .i64 (Int.ofNat n)))) (fun rows=>some (.s (.int .i64 (Int.ofNat (jb2 rows))))) (some (.s (.int .i64 0)))
theorem jue:j0b (.s .nilSlice)=some (vi 0):=rfl
theorem jky:j0b (.s (.lst rows))=some (vi rows.length):=by
 show some (AV.s (.int .i64 (Int.ofNat (jb2 rows))))=_
 rw[ja7];rfl
theorem jms {b n mc sz:Nat} {e:Bool}:j0b (.s (.slice b o n mc e sz))=some (vi n):=rfl
def j75 (n:Int):Option AV:=if -9223372036854775808<=n/\n<=9223372036854775807 then some (vi n) else none
theorem qdc {n:Int} (h1:-9223372036854775808<=n) (h2:n<=9223372036854775807):inR .i64 n=true:=by
 cases n with
 | ofNat m=>exact(jtj m 9223372036854775807).symm▸(by have:(m:Int)<=9223372036854775807:=h2
                                                      omega)
 | negSucc m=>exact(jtj m 9223372036854775807).symm▸(by have:-9223372036854775808<=Int.negSucc m:=h1
                                                        omega)
theorem jqj {n:Int}:j6a .i64 n=j75 n:=by
 unfold j75
 show oif (inR .i64 n) (some (AV.s (.int .i64 n))) none=_
 split
 .rename_i h;rw[qdc h.1 h.2];rfl
 .rename_i h
  cases e:inR .i64 n with
  | false=>rfl
  | true =>
   rcases jdt e with⟨_,a,b⟩ | ⟨e,_⟩ | ⟨e,_⟩
   .exact absurd ⟨a,b⟩ h
   .cases e
   .cases e
theorem jiz {n:Int} (h1:-9223372036854775808<=n) (h2:n<=9223372036854775807):j75 n=some (vi n):=if_pos ⟨h1,h2⟩
def w64 (n:Int):Int:=IntKind.wrap .i64 n
theorem jad {n:Int} (h1:-9223372036854775808<=n) (h2:n<=9223372036854775807):w64 n=n:=jkd (qdc h1 h2)
theorem j0c {n:Int}:qb9 .i64 n=some (vi (w64 n)):=by
 show oif (inR .i64 n) (some (AV.s (.int .i64 n))) (some (AV.s (.int .i64 (IntKind.wrap .i64 n))))=_
 cases e:inR .i64 n with
 | true=>rw[show w64 n=n from jkd e];rfl
 | false=>rfl
variable {a b:Int}
theorem j0d:jep .add (.int .i64 a) (.int .i64 b)=some (vi (w64 (a+b))):=by
 rw[←j0c];show qb9 .i64 (qey a b)=_;rw[jtk]
theorem j0e:jep .sub (.int .i64 a) (.int .i64 b)=some (vi (w64 (a - b))):=by rw[←j0c];rfl
theorem j0f:jep .mul (.int .i64 a) (.int .i64 b)=some (vi (w64 (a*b))):=by rw[←j0c];rfl
theorem qio:jep .quo (.int .i64 a) (.int .i64 b)=if b=0 then none else j75 (a.tdiv b):=by
 rw[←jqj]
 show oif (ieq b 0) none (j6a .i64 (a.tdiv b))=_
 rw[jap,jc0];simp only[decide_eq_true_eq]
theorem j0g:jep .rem (.int .i64 a) (.int .i64 b)=if b=0 then none else j75 (a.tmod b):=by
 rw[←jqj]
 show oif (ieq b 0) none (j6a .i64 (a.tmod b))=_
 rw[jap,jc0];simp only[decide_eq_true_eq]
theorem j76:jep .eq (.int .i64 a) (.int .i64 b)=some (vb (decide (a=b))):=by
 show some (AV.s (.bool (ieq a b)))=_;rw[jc0]
theorem j77:jep .ne (.int .i64 a) (.int .i64 b)=some (vb (decide (a≠b))):=by
 show some (AV.s (.bool (jhd (ieq a b))))=_;rw[jc0,jgk];congr 3;by_cases h:a=b<;>simp[h]
theorem j78:jep .lt (.int .i64 a) (.int .i64 b)=some (vb (decide (a<b))):=by
 show some (AV.s (.bool (jhd (ile b a))))=_;rw[jd2,jgk];congr 3;by_cases h:a<b<;>simp[h]
 omega
theorem j79:jep .le (.int .i64 a) (.int .i64 b)=some (vb (decide (a<=b))):=by
 show some (AV.s (.bool (ile a b)))=_;rw[jd2]
theorem j8a:jep .gt (.int .i64 a) (.int .i64 b)=some (vb (decide (b<a))):=by
 show some (AV.s (.bool (jhd (ile a b))))=_;rw[jd2,jgk];congr 3;by_cases h:b<a<;>simp[h]
 omega
theorem j8b:jep .ge (.int .i64 a) (.int .i64 b)=some (vb (decide (b<=a))):=by
 show some (AV.s (.bool (ile b a)))=_;rw[jd2]
theorem qip {n:Nat} {k:IntKind} (hn:n<=63):jep .shr (.int .i64 a) (.int k (n:Int))=some (vi (a / 2 ^ n)):=by
 have hs:qca .i64 n=true:=by
  have hI:jos .i64=true:=rfl
  unfold qca
  simp[jap,jtj,hn,hI]
 have e:jep .shr (.int .i64 a) (.int k (n:Int))=jwt .shr .i64 a (n:Int):=by
  show oif (Nat.beq (ikn .i64) (ikn k)) (jwt .shr .i64 a n) (oif true (jwt .shr .i64 a n) none)=_
  cases Nat.beq (ikn .i64) (ikn k)<;>rfl
 rw[e]
 cases a with
 | ofNat m =>
  show oif (qca .i64 n) (some (AV.s (.int .i64 (Int.ofNat (Nat.div m (Nat.pow 2 n)))))) none=_
  rw[hs]
  have:Int.ofNat (Nat.div m (Nat.pow 2 n))=Int.ofNat m / 2 ^ n:=by
   show((m / 2 ^ n:Nat):Int)=(m:Int) / 2 ^ n
   rw[Int.natCast_ediv,f3c];rfl
  rw[this];rfl
 | negSucc m =>
  show oif (qca .i64 n) (some (AV.s (.int .i64 (Int.negSucc (Nat.div m (Nat.pow 2 n)))))) none=_
  rw[hs]
  have:Int.negSucc (Nat.div m (Nat.pow 2 n))=Int.negSucc m / 2 ^ n:=by
   obtain⟨q,hq⟩:∃ q,2 ^ n=q+1:=⟨2 ^ n - 1,by have:=Nat.two_pow_pos n;omega⟩
   have h2:(2:Int) ^ n=((q+1:Nat):Int):=by rw[←hq,f3c];rfl
   have h3:Nat.pow 2 n=q+1:=hq
   rw[h2,h3];rfl
  rw[this];rfl
theorem jhl (h1:-9223372036854775808<=a) (h2:a<=9223372036854775807):jep .and (.int .i64 a) (.int .i64 1)=some (vi (a % 2)):=by
 have hr:=qdc h1 h2
 cases a with
 | ofNat m =>
  show oif (inR .i64 (.ofNat m)) (some (AV.s (.int .i64 (.ofNat (Nat.land m 1))))) none=_
  rw[hr]
  have:Int.ofNat (Nat.land m 1)=Int.ofNat m % 2:=by
   rw[show Nat.land m 1=m % 2 from f2a m];rfl
  rw[this];rfl
 | negSucc m =>
  show oif (inR .i64 (.negSucc m)) (some (AV.s (.int .i64 (.ofNat (Nat.xor 1 (Nat.land 1 m)))))) none=_
  rw[hr]
  have:Int.ofNat (Nat.xor 1 (Nat.land 1 m))=Int.negSucc m % 2:=by
   have e:Nat.land 1 m=m % 2:=(Nat.and_comm 1 m).trans (f2a m)
   rw[e]
   rcases Nat.mod_two_eq_zero_or_one m with h | h
   .rw [h];show(1:Int)=_;omega
   .rw [h];show(0:Int)=_;omega
  rw[this];rfl
theorem qiq (h1:-9223372036854775808<=a) (h2:a<=9223372036854775807):jep .or (.int .i64 a) (.int .i64 1)=some (vi (a+(1 - a % 2))):=by
 have hr:=qdc h1 h2
 cases a with
 | ofNat m =>
  show oif (inR .i64 (.ofNat m)) (some (AV.s (.int .i64 (.ofNat (Nat.lor m 1))))) none=_
  rw[hr]
  have:Int.ofNat (Nat.lor m 1)=Int.ofNat m+(1 - Int.ofNat m % 2):=by
   have e:m ||| 1=m+(1 - m % 2):=by
    have h1:(m ||| 1) / 2=m / 2:=by rw[Nat.or_div_two];simp
    have h2:(m ||| 1) % 2=1:=by rw[Nat.or_mod_two_eq_one];simp
    omega
   show((m ||| 1:Nat):Int)=(m:Int)+(1 - (m:Int) % 2)
   rw[e];omega
  rw[this];rfl
 | negSucc m =>
  show oif (inR .i64 (.negSucc m)) (some (AV.s (.int .i64 (.negSucc (Nat.xor m (Nat.land m 1)))))) none=_
  rw[hr]
  have:Int.negSucc (Nat.xor m (Nat.land m 1))=Int.negSucc m+(1 - Int.negSucc m % 2):=by
   have e:m ^^^ (m &&& 1)=m - m % 2:=by
    have h1:(m ^^^ (m &&& 1)) / 2=m / 2:=by rw[Nat.xor_div_two,Nat.and_div_two];simp
    have h2:¬ (m ^^^ (m &&& 1)) % 2=1:=by
     have e:m &&& 1=m % 2:=f2a m
     rw[e,Nat.xor_mod_two_eq_one];omega
    omega
   show Int.negSucc (m ^^^ (m &&& 1))=_
   rw[e];omega
  rw[this];rfl
end
class Ok (h:Hp):Prop where
 hid:h.hid=[]
 lo:h.lo=0
 pos:1<=h.next
theorem jde {a b:Nat} (h:a<=b):Nat.ble a b=true:=by rw[jtj];exact h
theorem jex:Ok h0:=⟨rfl,rfl,f0d 1⟩
section
variable {h:Hp} {F:Fns} {st fr:List AV} {Q:Ex->St->Prop} {β:Type}
theorem ja4 {x:AB} (k:Ok h):Ok (h.push x):=⟨k.hid,k.lo,f2i k.pos⟩
theorem jas {b:Nat} {x:Option AB} (k:Ok h):Ok (h.put b x):=⟨by rw[Hp.hid_put];exact k.hid,by rw[Hp.lo_put];exact k.lo,by rw[Hp.next_put];exact k.pos⟩
instance iPush {x:AB} [k:Ok h]:Ok (h.push x):=ja4 k
instance iPut {b:Nat} {x:Option AB} [k:Ok h]:Ok (h.put b x):=jas k
theorem ja6 {x:AB} {n:Nat} (k:Ok h):(h.push x).get n=if n=h.next then some x else h.get n:=by
 rw[Hp.get_eq,Hp.get_eq,Hp.hid_push,k.hid]
 have e:jao [] n=false:=rfl
 rw[e]
 show(h.tr.put (Nat.succ h.next) h.next (some x)).get n=_
 split
 .rename_i hn;subst hn;exact jbx _ _ _ _ k.pos (jng _)
 .rename_i hn;exact jb9 _ _ _ _ n k.pos (jng _) hn
theorem jak {b n:Nat} {x:Option AB} (k:Ok h) (hb:1<=b):(h.put b x).get n=if n=b then x else h.get n:=by
 rw[Hp.get_eq,Hp.get_eq,Hp.hid_put,k.hid,Hp.tr_put]
 have e:jao [] n=false:=rfl
 rw[e]
 show(h.tr.put (Nat.succ b) b x).get n=_
 split
 .rename_i hn;subst hn;exact jbx _ _ _ _ hb (jng _)
 .rename_i hn;exact jb9 _ _ _ _ n hb (jng _) hn
def Hp.hide (h:Hp) (lo:Nat) (hid:List (Nat×Nat)):Hp:=.mk h.next h.tr lo hid
theorem jmt {n:Nat}:jao [] n=false:=by cases n<;>rfl
theorem jjt {a b n:Nat} {l:List (Nat×Nat)}:jao ((a,b)::l) n=if a<=n/\n<b then true else jao l n:=by
 show oif (Nat.ble a n) (oif (Nat.ble (n+1) b) true (jao l n)) (jao l n)=_
 simp only[jap,jtj]
 by_cases h1:a<=n
 .by_cases h2:n+1<=b
  .rw [if_pos h1,if_pos h2,if_pos ⟨h1,h2⟩]
  .rw [if_pos h1,if_neg h2,if_neg (fun h=>h2 h.2)]
 .rw [if_neg h1,if_neg (fun h=>h1 h.1)]
theorem qdd {n:Nat} {hid:List (Nat×Nat)} (k:Ok h):(h.hide lo hid).get n=if jao hid n=true then none else h.get n:=by
 rw[Hp.get_eq,Hp.get_eq,k.hid];rfl
theorem jxt {cs:List SV} {ty:TypeId} {f:Nat->Hp->Option β} (k:Ok h):nw h cs ty f=f h.next (h.push (.arr cs ty)):=by
 cases h with
 | mk n t lo hid =>
  obtain rfl:hid=[]:=k.hid
  rfl
def rdB (x:Option AB) (off n:Nat):Option (List SV):=ob x (fun x=>AB.casesOn (motive:=fun _=>Option (List SV)) x (fun cs _=>jbp n (jb4 off cs)) (fun _ _=>none))
theorem qpr {b off n:Nat}:rd h b off n=rdB (h.get b) off n:=rfl
theorem jgm {cs:List SV} {ty:TypeId} {off n:Nat}:rdB (some (.arr cs ty)) off n=jbp n (jb4 off cs):=rfl
def wrB (h:Hp) (b:Nat) (x:Option AB) (off:Nat) (xs:List SV):Option Hp:=ob x (fun x=>AB.casesOn (motive:=fun _=>Option Hp) x (fun cs ty=>ob (jbv off xs cs) (fun cs'=>some (h.put b (some (.arr cs' ty))))) (fun _ _=>none))
theorem qir {b off:Nat} (k:Ok h):wr h b off xs=wrB h b (h.get b) off xs:=by
 show oif (Nat.ble h.lo b) _ none=_
 rw[k.lo];rfl
theorem jmu {b:Nat} {cs:List SV} {ty:TypeId} {off:Nat}:wrB h b (some (.arr cs ty)) off xs=ob (jbv off xs cs) (fun cs'=>some (h.put b (some (.arr cs' ty)))):=rfl
def jny (h:Hp) (n:Nat) (agg:Bool) (v:AV):Option AV:=jev v (fun b off=>ob (rd h b off n) (fun cs=>jfg agg cs)) (fun cs=>ob (jbp n cs) (fun cs=>jfg agg cs))
theorem qis {α γ:Type} {x:Option α} {f:α->Option β} {g:β->Option γ}:ob (ob x f) g=ob x (fun a=>ob (f a) g):=by cases x<;>rfl
theorem j2w {n:Nat} {x:Od}:jdy st fr h (.load n agg x)=ob (ev st fr x) (fun v=>ob (jny h n agg v) (fun v=>ok v h)):=by
 show ob (ev st fr x) (fun v=>jev v (fun b off=>ob (rd h b off n) (fun cs=>ob (jfg agg cs) (fun v=>ok v h))) (fun cs=>ob (jbp n cs) (fun cs=>ob (jfg agg cs) (fun v=>ok v h))))=_
 congr 1
 funext v
 cases v with
 | s v=>cases v<;>first | rfl | (show ob _ _=ob (ob _ _) _;rw[qis])
 | _=>rfl
def j8c (h:Hp) (n:Nat) (p v:AV):R:=jws p (fun b off=>cel v (fun cs=>oif (Nat.beq (jb2 cs) n) (ob (wr h b off cs) (fun h=>ok .undef h)) none))
theorem qde {b:Nat} {v:SV} (k:Ok h):j8c h 1 (.s (.ptr b o)) (.s v)=ob (wrB h b (h.get b) o [v]) (fun h=>ok .undef h):=by
 show ob (wr h b o [v]) _=_
 rw[qir k]
theorem j5i {n b:Nat} {cs:List SV} (k:Ok h) (hn:cs.length=n):j8c h n (.s (.ptr b o)) (.agg cs)=ob (wrB h b (h.get b) o cs) (fun h=>ok .undef h):=by
 show oif (Nat.beq (jb2 cs) n) (ob (wr h b o cs) _) none=_
 rw[qir k,ja7,hn,f1l];rfl
theorem qit {e:TypeId} (k:Ok h):jdy st fr h (.new e z)=some (.s (.ptr h.next 0),h.push (.arr z e)):=by
 show nw h z e (fun n h=>ok (.s (.ptr n 0)) h)=_
 rw[jxt k];rfl
theorem qiu {e:TypeId} {x:Od} (k:Ok h):jdy st fr h (.box e x)=ob (ev st fr x) (fun v=>cel v (fun cs=>some (.s (.ptr h.next 0),h.push (.arr cs e)))):=by
 show ob (ev st fr x) (fun v=>cel v (fun cs=>nw h cs e (fun n h=>ok (.s (.ptr n 0)) h)))=_
 congr 1;funext v;congr 1;funext cs;rw[jxt k];rfl
theorem j5j {e:TypeId} {size:Nat} {len:Nat} {ps:List (Nat×Nat×Od)} (k:Ok h):jdy st fr h (.bslice e size z len ps)=ob (fill st fr ps z) (fun cs=>some (.s (.slice h.next 0 len len true size),h.push (.arr cs e))):=by
 show ob (fill st fr ps z) (fun cs=>nw h cs e (fun n h=>ok (.s (.slice n 0 len len true size)) h))=_
 congr 1;funext cs;rw[jxt k];rfl
def qps (h:Hp) (e:TypeId) (size bytes:Nat) (z:List SV) (l c:AV):R:=qe2 l (fun m=>qe2 c (fun k=>oif (Nat.ble m k) (oif (Nat.ble (Nat.mul bytes k) 1000000000) (oif (Nat.ble k 1000000000) (nw h (rep z k) e (fun b h=>ok (.s (.slice b 0 m k true size)) h)) none) none) none))
theorem j0h {e:TypeId} {size:Nat} {m:Nat} (k:Ok h) (h1:bytes*m<=1000000000) (h2:m<=1000000000):qps h e size bytes z (vi m) (vi m)=some (.s (.slice h.next 0 m m true size),h.push (.arr (rep z m) e)):=by
 show oif (Nat.ble m m) (oif (Nat.ble (Nat.mul bytes m) 1000000000) (oif (Nat.ble m 1000000000) (nw h (rep z m) e _) none) none) none=_
 rw[jxt k,jde (f0d m),jde h2,show Nat.ble (Nat.mul bytes m) 1000000000=true from jde h1];rfl
def jza (size:Nat) (v w:AV):Option AV:=jcz v none (fun b off len _ _ _=>below w len (fun m=>some (.s (.ptr b (Nat.add off (Nat.mul m size))))))
 (fun rows=>below w (jb2 rows) (fun m=>ob (jec rows m) (fun row=>oif (Nat.beq (jb2 row) size) (some (.s (.cp row))) none))) none
theorem jg2 {m n:Nat} {f:Nat->Option β} (hm:m<n):below (vi (m:Int)) n f=f m:=by
 show oif (Nat.ble (Nat.succ m) n) (f m) none=_
 rw[jde (show Nat.succ m<=n from hm)];rfl
theorem jbg {size b off len mc sz m:Nat} {ex:Bool} (hm:m<len):jza size (.s (.slice b off len mc ex sz)) (vi (m:Int))=some (.s (.ptr b (off+m*size))):=jg2 (f:=fun m=>some (AV.s (.ptr b (Nat.add off (Nat.mul m size))))) hm
theorem jcr {size b off len mc sz:Nat} {ex:Bool} (hm:0<len):jza size (.s (.slice b off len mc ex sz)) (vi 0)=some (.s (.ptr b off)):=by
 have:=jg2 (f:=fun m=>some (AV.s (.ptr b (Nat.add off (Nat.mul m size))))) hm
 refine this.trans ?_
 show some (AV.s (.ptr b (off+0*size)))=_
 rw[f16,f1i]
theorem j2x {size m:Nat} (hr:rows[m]?=some row) (hl:row.length=size):jza size (.s (.lst rows)) (vi (m:Int))=some (.s (.cp row)):=by
 have hm:m<rows.length:=by
  rcases f0h m rows.length with h | h
  .exact h
  .rw [f0p h] at hr;cases hr
 have:=jg2 (f:=fun m=>ob (jec rows m) (fun row=>oif (Nat.beq (jb2 row) size) (some (AV.s (.cp row))) none)) (show m<jb2 rows by rw[ja7];exact hm)
 refine this.trans ?_
 rw[jcl,hr]
 show oif (Nat.beq (jb2 row) size) _ none=_
 rw[ja7,hl,f1l];rfl
def qff (n size:Nat) (v w:AV):Option AV:=jev v (fun b off=>below w n (fun m=>some (.s (.ptr b (Nat.add off (Nat.mul m size)))))) (fun cs=>below w n (fun m=>some (.s (.cp (jb4 (Nat.mul m size) cs)))))
theorem jc4 {n size b off m:Nat} (hm:m<n):qff n size (.s (.ptr b off)) (vi (m:Int))=some (.s (.ptr b (off+m*size))):=jg2 (f:=fun m=>some (AV.s (.ptr b (Nat.add off (Nat.mul m size))))) hm
theorem jfp {n size m:Nat} {cs:List SV} (hm:m<n):qff n size (.s (.cp cs)) (vi (m:Int))=some (.s (.cp (jb4 (m*size) cs))):=jg2 (f:=fun m=>some (AV.s (.cp (jb4 (Nat.mul m size) cs)))) hm
def qvw (h:Hp) (e:TypeId) (size bytes b n m:Nat) (x:Option AB) (new:List SV):R :=
 jj9 bytes (Nat.add n m) (ob x (fun x=>AB.casesOn (motive:=fun _=>R) x (fun cs ty =>
  ob (jbp (Nat.mul n size) (jb4 0 cs)) (fun old=>(oif (Nat.ble h.lo b) (oif (Nat.beq ty e) (nw (h.put b none) (jgp old new) e (fun k h=>ok (.s (.slice k 0 (Nat.add n m) (Nat.add n m) false size)) h)) none) none))) (fun _ _=>none)))
def juf (h:Hp) (e:TypeId) (size bytes:Nat) (v w:AV):R:=jcz w (qb7 v (ok v h)) (fun b' off' m _ _ _=>ob (rd h b' off' (Nat.mul m size)) (fun new=>jlx h e size bytes m v new))
 (fun rows=>ob (jww size rows) (fun new=>jlx h e size bytes (jb2 rows) v new)) (qb7 v (ok v h))
theorem jrz {e:TypeId} {size m:Nat}:juf h e size bytes (.s .nilSlice) (.s (.slice b' o' m mc' ex' sz'))=ob (rdB (h.get b') o' (m*size)) (fun new=>Nat.casesOn (motive:=fun _=>R) m (some (.s .nilSlice,h)) (fun _=>jj9 bytes m (nw h new e (fun k h=>ok (.s (.slice k 0 m m false size)) h)))):=rfl
theorem j8d {n:Nat} {x:R} (h1:n*bytes<=140737488355328) (h2:n<=140737488355328):jj9 bytes n x=x:=by
 show oif (Nat.ble (Nat.mul n bytes) 140737488355328) (oif (Nat.ble n 140737488355328) x none) none=_
 rw[show Nat.ble (Nat.mul n bytes) 140737488355328=true from jde h1,jde h2];rfl
theorem jn9 {n:Nat} {x:R} (h1:n*bytes<=1000000000) (h2:n<=1000000000):jj9 bytes n x=x:=j8d (by omega) (by omega)
theorem jnz {e:TypeId} {size b n m:Nat} (hm:1<=m):juf h e size bytes (.s (.slice b 0 n n false size)) (.s (.slice b' o' m mc' ex' sz'))=ob (rdB (h.get b') o' (m*size)) (fun new=>qvw h e size bytes b n m (h.get b) new):=by
 show ob (rdB (h.get b') o' (m*size)) (fun new=>oif (Nat.beq size size) (oif (Nat.ble (Nat.add n m) n) _ (jj9 bytes (Nat.add n m) (jlw h e size b 0 n m false new))) none)=_
 congr 1
 funext new
 have e1:Nat.ble (Nat.add n m) n=false:=by
  cases e:Nat.ble (Nat.add n m) n with
  | false=>rfl
  | true=>rw[jtj] at e;have:n+m<=n:=e;omega
 rw[f1l]
 show oif (Nat.ble (Nat.add n m) n) _ _=_
 rw[e1]
 rfl
theorem qiv {e:TypeId} {size b n m:Nat} {cs new:List SV} (k:Ok h) (hc:cs.length=n*size) (h1:(n+m)*bytes<=1000000000) (h2:n+m<=1000000000) :
 qvw h e size bytes b n m (some (.arr cs e)) new=some (.s (.slice h.next 0 (n+m) (n+m) false size),(h.put b none).push (.arr (cs++new) e)):=by
 show jj9 bytes (n+m) (ob (jbp (n*size) cs) (fun old=>oif (Nat.ble h.lo b) (oif (Nat.beq e e) (nw (h.put b none) (jgp old new) e _) none) none))=_
 rw[jn9 h1 h2,(ja5 _).2 ⟨f2l hc.symm,rfl⟩,←hc,f2e]
 show oif (Nat.ble h.lo b) (oif (Nat.beq e e) (nw (h.put b none) (jgp cs new) e _) none) none=_
 rw[k.lo,f1l,jxt (jas k),jc8,Hp.next_put]
 rfl
def qwm (v:AV):Option (Bool×List SV):=AV.casesOn (motive:=fun _=>Option (Bool×List SV)) v (fun s=>some (false,[s])) (fun l=>some (true,l)) (fun _=>none) none none
theorem jmv:jgs fr h []=some []:=rfl
theorem jfq {r:IR} {l:List IR}:jgs fr h (r::l)=ob (jnx fr h r) (fun v=>ob (jgs fr h l) (fun x=>some (v::x))):=rfl
theorem jmw:jco (.mk fr h) []=some (.tup [],h):=rfl
theorem j5k {r:IR}:jco (.mk fr h) [r]=ob (jnx fr h r) (fun p=>ob (jfg p.1 p.2) (fun v=>some (v,h))):=by
 show ob (ob (jnx fr h r) (fun v=>ob (some []) (fun x=>some (v::x)))) (fun vs=>List.casesOn (motive:=fun _=>R) vs (ok (.tup []) h) (fun p r=>List.casesOn (motive:=fun _=>R) r (ob (jfg p.1 p.2) (fun v=>ok v h)) (fun _ _=>ok (.tup vs) h)))=_
 cases jnx fr h r<;>rfl
theorem j5l {r r':IR} {l:List IR}:jco (.mk fr h) (r::r'::l)=ob (jgs fr h (r::r'::l)) (fun vs=>some (.tup vs,h)):=by
 show ob (jgs fr h (r::r'::l)) (fun vs=>List.casesOn (motive:=fun _=>R) vs (ok (.tup []) h) (fun p r=>List.casesOn (motive:=fun _=>R) r (ob (jfg p.1 p.2) (fun v=>ok v h)) (fun _ _=>ok (.tup vs) h)))=_
 rw[jfq,jfq]
 cases jnx fr h r with
 | none=>rfl
 | some a=>cases jnx fr h r' with
  | none=>rfl
  | some b=>cases jgs fr h l<;>rfl
theorem qiw {v:AV}:ok v h=some (v,h):=rfl
theorem j0i {es:List Ent} {hid:List (Nat×Nat)}:sel es [] hid=some hid:=rfl
theorem jug {es:List Ent} {hid:List (Nat×Nat)}:sel es (j::js) hid=ob (jec es j) (fun e=>ob (sel es js hid) (fun l=>Ent.casesOn (motive:=fun _=>Option (List (Nat×Nat))) e (fun iv _=>some (iv++l)))):=by
 show ob (jec es j) (fun e=>ob (sel es js hid) (fun l=>Ent.casesOn (motive:=fun _=>Option (List (Nat×Nat))) e (fun iv _=>some (jgp iv l))))=_
 simp only[jc8]
def fpV:AV->List Nat
 | .s (.ptr b _)=>[b]
 | _=>[]
theorem j0j {b:Nat}:fpV (.s (.ptr b o))=[b]:=rfl
theorem j8e {cs:List SV}:fpV (.s (.cp cs))=[]:=rfl
theorem jxu {es:List Ent} {dst:Option Nat} {n:Nat} {x:Od} {l:List (IOper×Option (List Nat))}:WD F ((.mk dst (.a (.load n agg x)) none,some js)::l) st es fr h Q=obP (sel es js h.hid) (fun hid'=>obP (ev st fr x) (fun p=>obP (jny (h.hide h.next hid') n agg p) (fun v=>WD F l (v::st) (.mk [] (some (fpV p))::es) (jcn fr dst v) h Q))):=by
 cases h with
 | mk k t lo hid =>
 rw[jz0 (x:=ob (sel es js hid) (fun hid'=>ob (ev st fr x) (fun p=>ob (jny (.mk k t k hid') n agg p) (fun v=>some (DR.mk v (.mk k t lo hid) (.mk [] (some (fpV p)))))))) (fun cl=>?_)]
 .refine propext ⟨fun⟨p,h1,h2⟩=>?_,fun⟨hid',h0,q,h1,v,h2,h3⟩=>⟨.mk v (.mk k t lo hid) (.mk [] (some (fpV q))),jaa.2 ⟨hid',h0,jaa.2 ⟨q,h1,jaa.2 ⟨v,h2,rfl⟩⟩⟩,h3⟩⟩
  obtain⟨hid',h3,h4⟩:=jaa.1 h1
  obtain⟨q,h5,h6⟩:=jaa.1 h4
  obtain⟨v,h7,h8⟩:=jaa.1 h6
  cases h8
  exact⟨hid',h3,q,h5,v,h7,h2⟩
 .show jnd cl st fr es (.mk k t lo hid) (.a (.load n agg x)) js=_
  show ob (sel es js hid) (fun hid'=>Cls.casesOn (motive:=fun _=>Option DR) (jtg (ob (ev st fr x) (fun v=>jev v (fun b _=>some (Cls.load b)) (fun _=>some .quiet))) (fun c=>c))
   (jnw cl st fr k t lo k hid hid' (.a (.load n agg x)) (fun n'=>.mk [(k,n')] (some [])))
   (fun x'=>jnw cl st fr k t lo k hid hid' (.a (.load n agg x)) (fun _=>.mk [] (some [x'])))
   (fun b=>oif (jka es js b) (oif (Nat.ble lo b) (ob (Hp.get (.mk k t lo hid') b) (fun _=>jnw cl st fr k t lo lo hid hid' (.a (.load n agg x)) (fun n'=>.mk [(b,Nat.succ b),(k,n')] none))) none) none)
   (jnw cl st fr k t lo k hid hid' (.a (.load n agg x)) (fun _=>.mk [] (some [])))
   (jnw cl st fr k t lo k hid hid' (.a (.load n agg x)) (fun n'=>.mk [(k,n')] none)))=_
  congr 1
  funext hid'
  have key:∀ e:Nat->Ent,jnw cl st fr k t lo k hid hid' (.a (.load n agg x)) e=ob (ev st fr x) (fun p=>ob (jny (.mk k t k hid') n agg p) (fun v=>some (DR.mk v (.mk k t lo hid) (e k)))):=fun e=>by
   show ob (aop cl st fr (.mk k t k hid') (.load n agg x)) _=_
   rw[jjn (show AO.calls (.load n agg x)=false from rfl),j2w]
   cases ev st fr x with
   | none=>rfl
   | some p =>
    show ob (ob (jny (.mk k t k hid') n agg p) _) _=ob (jny (.mk k t k hid') n agg p) _
    cases jny (.mk k t k hid') n agg p<;>rfl
  have k1:=key (fun n'=>.mk [(k,n')] none)
  have k3:=key (fun _=>.mk [] (some []))
  have k2:=fun b=>key (fun _=>.mk [] (some [b]))
  cases hx:ev st fr x with
  | none =>
   rw[hx] at k1
   exact k1
  | some p =>
   rw[hx] at k1 k3
   simp only[hx] at k2
   cases p with
   | s p =>
    cases p with
    | ptr b o=>exact k2 b
    | cp cs=>exact k3
    | _=>exact k1
   | _=>exact k1
theorem jr0 {es:List Ent} {dst:Option Nat} {e:TypeId} {size:Nat} {len:Nat} {ps:List (Nat×Nat×Od)} {l:List (IOper×Option (List Nat))}:WD F ((.mk dst (.a (.bslice e size z len ps)) none,some js)::l) st es fr h Q=obP (sel es js h.hid) (fun hid'=>obP (fill st fr ps z) (fun cs=>jao hid' h.next=false/\WD F l (.s (.slice h.next 0 len len true size)::st) (.mk [(h.next,h.next+1)] (some [])::es) (jcn fr dst (.s (.slice h.next 0 len len true size))) (h.push (.arr cs e)) Q)):=by
 cases h with
 | mk k t lo hid =>
 rw[jz0 (x:=ob (sel es js hid) (fun hid'=>ob (fill st fr ps z) (fun cs=>oif (jao hid' k) none (some (DR.mk (.s (.slice k 0 len len true size)) ((Hp.mk k t lo hid).push (.arr cs e)) (.mk [(k,k+1)] (some []))))))) (fun cl=>?_)]
 .refine propext ⟨fun⟨p,h1,h2⟩=>?_,fun⟨hid',h0,cs,h1,h2,h3⟩=>⟨DR.mk (.s (.slice k 0 len len true size)) ((Hp.mk k t lo hid).push (.arr cs e)) (.mk [(k,k+1)] (some [])),jaa.2 ⟨hid',h0,jaa.2 ⟨cs,h1,?_⟩⟩,h3⟩⟩
  .obtain ⟨hid',h3,h4⟩:=jaa.1 h1
   obtain⟨cs,h5,h6⟩:=jaa.1 h4
   rw[jap] at h6
   split at h6
   .cases h6
   .rename_i h7
    cases h6
    exact⟨hid',h3,cs,h5,Bool.eq_false_iff.2 h7,h2⟩
  .have h2':jao hid' k=false:=h2
   rw[h2'];rfl
 .show jnd cl st fr es (.mk k t lo hid) (.a (.bslice e size z len ps)) js=_
  show ob (sel es js hid) (fun hid'=>ob (ob (fill st fr ps z) (fun cs=>oif (jao hid' k) none (ok (.s (.slice k 0 len len true size)) (Hp.mk (Nat.succ k) (t.put (Nat.succ k) k (some (.arr cs e))) k hid')))) (fun p=>Hp.casesOn (motive:=fun _=>Option DR) p.2 (fun n' t' _ _=>some (.mk p.1 (.mk n' t' lo hid) (.mk [(k,n')] (some []))))))=_
  congr 1
  funext hid'
  cases fill st fr ps z with
  | none=>rfl
  | some cs =>
   show ob (oif (jao hid' k) none _) _=oif (jao hid' k) none _
   cases jao hid' k<;>rfl
end
section
variable {F:Fns} {s:St} {st fr:List AV} {h h':Hp} {Q:Ex->St->Prop} {l:List IOper} {dst:Option Nat} {v w:AV} {m:List (IOper×Option (List Nat))} {es:List Ent}
def zpO (F:Fns) (x:Option AV) (dst:Option Nat) (l:List IOper) (st fr:List AV) (h:Hp) (Q:Ex->St->Prop):Prop:=obP x (fun v=>WO F l (v::st) (jcn fr dst v) h Q)
theorem juh:zpO F (some v) dst l st fr h Q=WO F l (v::st) (jcn fr dst v) h Q:=jcb
def zmO (F:Fns) (x:R) (dst:Option Nat) (l:List IOper) (st fr:List AV) (Q:Ex->St->Prop):Prop:=obP x (fun p=>WO F l (p.1::st) (jcn fr dst p.1) p.2 Q)
theorem jui:zmO F (some (v,h)) dst l st fr Q=WO F l (v::st) (jcn fr dst v) h Q:=jcb
def qix (F:Fns) (dst:Option Nat) (l:List IOper) (st fr:List AV) (Q:Ex->St->Prop) (v:AV) (h:Hp):Prop:=WO F l (v::st) (jcn fr dst v) h Q
theorem juj:qix F dst l st fr Q v h=WO F l (v::st) (jcn fr dst v) h Q:=rfl
def zkO (F:Fns) (x:Option (List AV)) (f:FuncId) (dst:Option Nat) (l:List IOper) (st fr:List AV) (h:Hp) (Q:Ex->St->Prop):Prop:=obP x (fun vs=>WC F f vs h (qix F dst l st fr Q))
theorem juk {f:FuncId}:zkO F (some vs) f dst l st fr h Q=WC F f vs h (qix F dst l st fr Q):=jcb
def zgO (F:Fns) (x:Option AV) (t:Bool) (dst:Option Nat) (op:IOp) (l:List IOper) (st fr:List AV) (h:Hp) (Q:Ex->St->Prop):Prop:=gP x t (WO F (.mk dst op none::l) st fr h Q) (WO F l (.undef::st) (jcn fr dst .undef) h Q)
theorem jul {b:Bool} {op:IOp}:zgO F (some (.s (.bool b))) t dst op l st fr h Q=if b=t then WO F (.mk dst op none::l) st fr h Q else WO F l (.undef::st) (jcn fr dst .undef) h Q:=j7p
theorem jqk {op:IOp}:zgO F (some .undef) t dst op l st fr h Q=WO F l (.undef::st) (jcn fr dst .undef) h Q:=j2t
def zcO (F:Fns) (x:Option AV) (a b:IC) (fr:List AV) (h:Hp) (Q:Ex->St->Prop):Prop:=qth x (W F a (.mk fr h) Q) (W F b (.mk fr h) Q)
theorem jum {b:Bool} {x y:IC}:zcO F (some (.s (.bool b))) x y fr h Q=if b=true then W F x (.mk fr h) Q else W F y (.mk fr h) Q:=j7k
theorem j0k {c:Od} {x y:IC}:W F (.cond c x y) (.mk fr h) Q=zcO F (ev [] fr c) x y fr h Q:=qph
theorem j0l {o:PO}:WO F (.mk dst (.p o) none::l) st fr h Q=zpO F (pop st fr o) dst l st fr h Q:=qh9
theorem j0m {f:FuncId} {as:List Od}:WO F (.mk dst (.a (.call f as)) none::l) st fr h Q=zkO F (evs st fr as) f dst l st fr h Q:=qia
theorem jun {op:IOp}:WO F (.mk dst op (some (i,t))::l) st fr h Q=zgO F (jec st i) t dst op l st fr h Q:=qc3
theorem j2y {x:Od} {as:List Od} {f:FuncId} {caps:List (Nat×Nat)} (hx:ev st fr x=some (.s (.func f caps))):WO F (.mk dst (.a (.callv x as)) none::l) st fr h Q=zkO F (ob (evs st fr as) (fun vs=>some (vs++jgq caps))) f dst l st fr h Q:=by
 rw[qc2]
 refine propext ⟨fun⟨g,cs,h1,vs,h2,h3⟩=>?_,fun⟨vs,h1,h2⟩=>?_⟩
 .rw [hx] at h1;cases h1
  exact⟨_,jaa.2 ⟨vs,h2,rfl⟩,h3⟩
 .obtain ⟨us,h3,h4⟩:=jaa.1 h1
  cases h4
  exact⟨f,caps,hx,us,h3,h2⟩
def zpD (F:Fns) (x:Option AV) (e:Ent) (dst:Option Nat) (m:List (IOper×Option (List Nat))) (st:List AV) (es:List Ent) (fr:List AV) (h:Hp) (Q:Ex->St->Prop):Prop:=obP x (fun v=>WD F m (v::st) (e::es) (jcn fr dst v) h Q)
theorem juo {e:Ent}:zpD F (some v) e dst m st es fr h Q=WD F m (v::st) (e::es) (jcn fr dst v) h Q:=jcb
def zmD (F:Fns) (x:R) (dst:Option Nat) (m:List (IOper×Option (List Nat))) (st:List AV) (es:List Ent) (fr:List AV) (Q:Ex->St->Prop):Prop:=obP x (fun p=>WD F m (p.1::st) (.mk [] (some [])::es) (jcn fr dst p.1) p.2 Q)
theorem jup:zmD F (some (v,h)) dst m st es fr Q=WD F m (v::st) (.mk [] (some [])::es) (jcn fr dst v) h Q:=jcb
def qiy (F:Fns) (dst:Option Nat) (m:List (IOper×Option (List Nat))) (st:List AV) (es:List Ent) (fr:List AV) (Q:Ex->St->Prop) (v:AV) (h:Hp):Prop:=WD F m (v::st) (.mk [] (some [])::es) (jcn fr dst v) h Q
theorem juq:qiy F dst m st es fr Q v h=WD F m (v::st) (.mk [] (some [])::es) (jcn fr dst v) h Q:=rfl
def zkD (F:Fns) (x:Option (List AV)) (f:FuncId) (dst:Option Nat) (m:List (IOper×Option (List Nat))) (st:List AV) (es:List Ent) (fr:List AV) (h:Hp) (Q:Ex->St->Prop):Prop:=obP x (fun vs=>WC F f vs h (qiy F dst m st es fr Q))
theorem jur {f:FuncId}:zkD F (some vs) f dst m st es fr h Q=WC F f vs h (qiy F dst m st es fr Q):=jcb
def zgD (F:Fns) (x:Option AV) (t:Bool) (dst:Option Nat) (op:IOp) (o:Option (List Nat)) (m:List (IOper×Option (List Nat))) (st:List AV) (es:List Ent) (fr:List AV) (h:Hp) (Q:Ex->St->Prop):Prop:=gP x t (WD F ((.mk dst op none,o)::m) st es fr h Q) (WD F m (.undef::st) (.mk [] (some [])::es) (jcn fr dst .undef) h Q)
theorem jus {b:Bool} {op:IOp} {o:Option (List Nat)}:zgD F (some (.s (.bool b))) t dst op o m st es fr h Q=if b=t then WD F ((.mk dst op none,o)::m) st es fr h Q else WD F m (.undef::st) (.mk [] (some [])::es) (jcn fr dst .undef) h Q:=j7p
theorem jql {op:IOp} {o:Option (List Nat)}:zgD F (some .undef) t dst op o m st es fr h Q=WD F m (.undef::st) (.mk [] (some [])::es) (jcn fr dst .undef) h Q:=j2t
theorem j0n {o:PO}:WD F ((.mk dst (.p o) none,none)::m) st es fr h Q=zpD F (pop st fr o) (.mk [] (some [])) dst m st es fr h Q:=qib
theorem j0o {f:FuncId} {as:List Od}:WD F ((.mk dst (.a (.call f as)) none,none)::m) st es fr h Q=zkD F (evs st fr as) f dst m st es fr h Q:=qic
theorem jut {op:IOp} {o:Option (List Nat)}:WD F ((.mk dst op (some (i,t)),o)::m) st es fr h Q=zgD F (jec st i) t dst op o m st es fr h Q:=qc4
def qvx (F:Fns) (x:Option (List (Nat×Nat))) (o:Option AV) (dst:Option Nat) (m:List (IOper×Option (List Nat))) (st:List AV) (es:List Ent) (fr:List AV) (h:Hp) (Q:Ex->St->Prop):Prop:=obP x (fun _=>zpD F o (.mk [(h.next,h.next)] (some [])) dst m st es fr h Q)
theorem jqm {x:List (Nat×Nat)} {o:Option AV}:qvx F (some x) o dst m st es fr h Q=zpD F o (.mk [(h.next,h.next)] (some [])) dst m st es fr h Q:=jcb
theorem jik {o:PO}:WD F ((.mk dst (.p o) none,some js)::m) st es fr h Q=qvx F (sel es js h.hid) (pop st fr o) dst m st es fr h Q:=jxr
def qtn (F:Fns) (x:Option (List (Nat×Nat))) (n:Nat) (agg:Bool) (p:Option AV) (dst:Option Nat) (m:List (IOper×Option (List Nat))) (st:List AV) (es:List Ent) (fr:List AV) (h:Hp) (Q:Ex->St->Prop):Prop:=obP x (fun hid'=>obP p (fun p=>zpD F (jny (h.hide h.next hid') n agg p) (.mk [] (some (fpV p))) dst m st es fr h Q))
theorem jqn {x:List (Nat×Nat)} {n:Nat}:qtn F (some x) n agg (some w) dst m st es fr h Q=zpD F (jny (h.hide h.next x) n agg w) (.mk [] (some (fpV w))) dst m st es fr h Q:=by
 unfold qtn;rw[jcb,jcb]
theorem jil {n:Nat} {x:Od}:WD F ((.mk dst (.a (.load n agg x)) none,some js)::m) st es fr h Q=qtn F (sel es js h.hid) n agg (ev st fr x) dst m st es fr h Q:=jxu
def qsp (F:Fns) (x:Option (List (Nat×Nat))) (cs:Option (List SV)) (e:TypeId) (size len:Nat) (dst:Option Nat) (m:List (IOper×Option (List Nat))) (st:List AV) (es:List Ent) (fr:List AV) (h:Hp) (Q:Ex->St->Prop):Prop:=obP x (fun hid'=>obP cs (fun cs=>jao hid' h.next=false/\WD F m (.s (.slice h.next 0 len len true size)::st) (.mk [(h.next,h.next+1)] (some [])::es) (jcn fr dst (.s (.slice h.next 0 len len true size))) (h.push (.arr cs e)) Q))
theorem jkz {x:List (Nat×Nat)} {cs:List SV} {e:TypeId} {size len:Nat} (hx:jao x h.next=false):qsp F (some x) (some cs) e size len dst m st es fr h Q=WD F m (.s (.slice h.next 0 len len true size)::st) (.mk [(h.next,h.next+1)] (some [])::es) (jcn fr dst (.s (.slice h.next 0 len len true size))) (h.push (.arr cs e)) Q:=by
 unfold qsp;rw[jcb,jcb];exact propext ⟨fun h=>h.2,fun h=>⟨hx,h⟩⟩
theorem j0p {cs:List SV} {e:TypeId} {size len:Nat}:qsp F (some []) (some cs) e size len dst m st es fr h Q=WD F m (.s (.slice h.next 0 len len true size)::st) (.mk [(h.next,h.next+1)] (some [])::es) (jcn fr dst (.s (.slice h.next 0 len len true size))) (h.push (.arr cs e)) Q:=jkz rfl
theorem jgn {e:TypeId} {size:Nat} {len:Nat} {ps:List (Nat×Nat×Od)}:WD F ((.mk dst (.a (.bslice e size z len ps)) none,some js)::m) st es fr h Q=qsp F (sel es js h.hid) (fill st fr ps z) e size len dst m st es fr h Q:=jr0
def qwn (F:Fns) (x:Option (List (Nat×Nat))) (u:AV) (dst:Option Nat) (m:List (IOper×Option (List Nat))) (st:List AV) (es:List Ent) (fr:List AV) (h:Hp) (Q:Ex->St->Prop):Prop:=obP x (fun _=>WD F m (u::st) (.mk [(h.next,h.next)] none::es) (jcn fr dst u) h Q)
theorem jqo {x:List (Nat×Nat)} {u:AV}:qwn F (some x) u dst m st es fr h Q=WD F m (u::st) (.mk [(h.next,h.next)] none::es) (jcn fr dst u) h Q:=jcb
theorem j8f {e:TypeId}:WO F (.mk dst (.a (.new e z)) none::l) st fr h Q=zmO F (jdy st fr h (.new e z)) dst l st fr Q:=jez rfl
theorem j8g {e:TypeId}:WD F ((.mk dst (.a (.new e z)) none,none)::m) st es fr h Q=zmD F (jdy st fr h (.new e z)) dst m st es fr Q:=jfo rfl
theorem j8h {e:TypeId} {x:Od}:WO F (.mk dst (.a (.box e x)) none::l) st fr h Q=zmO F (jdy st fr h (.box e x)) dst l st fr Q:=jez rfl
theorem j8i {e:TypeId} {x:Od}:WD F ((.mk dst (.a (.box e x)) none,none)::m) st es fr h Q=zmD F (jdy st fr h (.box e x)) dst m st es fr Q:=jfo rfl
theorem jqp {e:TypeId} {size:Nat} {len:Nat} {ps:List (Nat×Nat×Od)}:WO F (.mk dst (.a (.bslice e size z len ps)) none::l) st fr h Q=zmO F (jdy st fr h (.bslice e size z len ps)) dst l st fr Q:=jez rfl
theorem jqq {e:TypeId} {size:Nat} {len:Nat} {ps:List (Nat×Nat×Od)}:WD F ((.mk dst (.a (.bslice e size z len ps)) none,none)::m) st es fr h Q=zmD F (jdy st fr h (.bslice e size z len ps)) dst m st es fr Q:=jfo rfl
theorem jmx {e:TypeId} {size:Nat} {x y:Od}:WO F (.mk dst (.a (.mkslice e size bytes z x y)) none::l) st fr h Q=zmO F (jdy st fr h (.mkslice e size bytes z x y)) dst l st fr Q:=jez rfl
theorem jmy {e:TypeId} {size:Nat} {x y:Od}:WD F ((.mk dst (.a (.mkslice e size bytes z x y)) none,none)::m) st es fr h Q=zmD F (jdy st fr h (.mkslice e size bytes z x y)) dst m st es fr Q:=jfo rfl
theorem j0q {n:Nat} {x:Od}:WO F (.mk dst (.a (.load n agg x)) none::l) st fr h Q=zmO F (jdy st fr h (.load n agg x)) dst l st fr Q:=jez rfl
theorem j0r {n:Nat} {x:Od}:WD F ((.mk dst (.a (.load n agg x)) none,none)::m) st es fr h Q=zmD F (jdy st fr h (.load n agg x)) dst m st es fr Q:=jfo rfl
theorem juu {n:Nat} {x y:Od}:WO F (.mk dst (.a (.store n x y)) none::l) st fr h Q=zmO F (jdy st fr h (.store n x y)) dst l st fr Q:=jez rfl
theorem juv {n:Nat} {x y:Od}:WD F ((.mk dst (.a (.store n x y)) none,none)::m) st es fr h Q=zmD F (jdy st fr h (.store n x y)) dst m st es fr Q:=jfo rfl
theorem j8j {e:TypeId} {size:Nat} {x y:Od}:WO F (.mk dst (.a (.app e size bytes x y)) none::l) st fr h Q=zmO F (jdy st fr h (.app e size bytes x y)) dst l st fr Q:=jez rfl
theorem j8k {e:TypeId} {size:Nat} {x y:Od}:WD F ((.mk dst (.a (.app e size bytes x y)) none,none)::m) st es fr h Q=zmD F (jdy st fr h (.app e size bytes x y)) dst m st es fr Q:=jfo rfl
theorem j0s {size:Nat} {x y:Od}:WO F (.mk dst (.a (.copy size x y)) none::l) st fr h Q=zmO F (jdy st fr h (.copy size x y)) dst l st fr Q:=jez rfl
theorem j0t {size:Nat} {x y:Od}:WD F ((.mk dst (.a (.copy size x y)) none,none)::m) st es fr h Q=zmD F (jdy st fr h (.copy size x y)) dst m st es fr Q:=jfo rfl
theorem juw {x:Od}:WO F (.mk dst (.a (.clear z x)) none::l) st fr h Q=zmO F (jdy st fr h (.clear z x)) dst l st fr Q:=jez rfl
theorem jux {x:Od}:WD F ((.mk dst (.a (.clear z x)) none,none)::m) st es fr h Q=zmD F (jdy st fr h (.clear z x)) dst m st es fr Q:=jfo rfl
theorem juy:WO F (.mk dst (.a (.mkmap va)) none::l) st fr h Q=zmO F (jdy st fr h (.mkmap va)) dst l st fr Q:=jez rfl
theorem juz:WD F ((.mk dst (.a (.mkmap va)) none,none)::m) st es fr h Q=zmD F (jdy st fr h (.mkmap va)) dst m st es fr Q:=jfo rfl
theorem j0u {x k:Od}:WO F (.mk dst (.a (.look sig va z okf x k)) none::l) st fr h Q=zmO F (jdy st fr h (.look sig va z okf x k)) dst l st fr Q:=jez rfl
theorem j0v {x k:Od}:WD F ((.mk dst (.a (.look sig va z okf x k)) none,none)::m) st es fr h Q=zmD F (jdy st fr h (.look sig va z okf x k)) dst m st es fr Q:=jfo rfl
theorem j0w {x k y:Od}:WO F (.mk dst (.a (.mupd sig va x k y)) none::l) st fr h Q=zmO F (jdy st fr h (.mupd sig va x k y)) dst l st fr Q:=jez rfl
theorem j0x {x k y:Od}:WD F ((.mk dst (.a (.mupd sig va x k y)) none,none)::m) st es fr h Q=zmD F (jdy st fr h (.mupd sig va x k y)) dst m st es fr Q:=jfo rfl
theorem jqr {n size:Nat} {x:Od}:WO F (.mk dst (.a (.slicea n size x)) none::l) st fr h Q=zmO F (jdy st fr h (.slicea n size x)) dst l st fr Q:=jez rfl
theorem jqs {n size:Nat} {x:Od}:WD F ((.mk dst (.a (.slicea n size x)) none,none)::m) st es fr h Q=zmD F (jdy st fr h (.slicea n size x)) dst m st es fr Q:=jfo rfl
theorem j0y {size:Nat} {x:Od}:WO F (.mk dst (.a (.boxc size x)) none::l) st fr h Q=zmO F (jdy st fr h (.boxc size x)) dst l st fr Q:=jez rfl
theorem j0z {size:Nat} {x:Od}:WD F ((.mk dst (.a (.boxc size x)) none,none)::m) st es fr h Q=zmD F (jdy st fr h (.boxc size x)) dst m st es fr Q:=jfo rfl
def qvy (o:BO) (x y:Option AV):Option AV:=ob x (fun a=>ob y (fun b=>svc none a (fun a=>svc none b (fun b=>jep o a b))))
theorem j8l {o:BO} {x y:Od}:pop st fr (.bin o x y)=qvy o (ev st fr x) (ev st fr y):=rfl
theorem jqt {o:BO} {a b:SV}:qvy o (some (.s a)) (some (.s b))=jep o a b:=rfl
def qto (off:Nat) (x:Option AV):Option AV:=ob x (fun v=>jev v (fun b o=>some (.s (.ptr b (o+off)))) (fun cs=>some (.s (.cp (jb4 off cs)))))
theorem j8m {off:Nat} {x:Od}:pop st fr (.fld off x)=qto off (ev st fr x):=rfl
theorem ju0 {off b:Nat}:qto off (some (.s (.ptr b o)))=some (.s (.ptr b (o+off))):=rfl
theorem j00 {off:Nat} {cs:List SV}:qto off (some (.s (.cp cs)))=some (.s (.cp (jb4 off cs))):=rfl
def qiz (x:Option AV):Option AV:=ob x (fun v=>jev v (fun b o=>some (.s (.ptr b o))) (fun cs=>some (.s (.cp cs))))
theorem j01 {x:Od}:pop st fr (.nchk x)=qiz (ev st fr x):=rfl
theorem jqu {b:Nat}:qiz (some (.s (.ptr b o)))=some (.s (.ptr b o)):=rfl
theorem ju1 {cs:List SV}:qiz (some (.s (.cp cs)))=some (.s (.cp cs)):=rfl
def qvz (x:Option AV):Option AV:=ob x j0b
theorem j8n {x:Od}:pop st fr (.len x)=qvz (ev st fr x):=rfl
theorem jqv:qvz (some v)=j0b v:=rfl
def qv0 (size:Nat) (x y:Option AV):Option AV:=ob x (fun v=>ob y (fun w=>jza size v w))
theorem j8o {size:Nat} {x i:Od}:pop st fr (.ixs size x i)=qv0 size (ev st fr x) (ev st fr i):=rfl
theorem jqw {size:Nat}:qv0 size (some v) (some w)=jza size v w:=rfl
def qv1 (n size:Nat) (x y:Option AV):Option AV:=ob x (fun v=>ob y (fun w=>qff n size v w))
theorem j8p {n size:Nat} {x i:Od}:pop st fr (.ixa n size x i)=qv1 n size (ev st fr x) (ev st fr i):=rfl
theorem jqx {n size:Nat}:qv1 n size (some v) (some w)=qff n size v w:=rfl
def qpt (x:Option AV) (a b:Od) (st fr:List AV):Option AV:=ob x (fun v=>jhe v (fun t=>ev st fr (oif t a b)))
theorem j02 {c a b:Od}:pop st fr (.pick c a b)=qpt (ev st fr c) a b st fr:=rfl
theorem jmz {a b:Od}:qpt (some (.s (.bool t))) a b st fr=if t=true then ev st fr a else ev st fr b:=by cases t<;>rfl
def qv2 (i:Nat) (x:Option AV):Option AV:=ob x (fun v=>AV.casesOn (motive:=fun _=>Option AV) v (fun _=>none) (fun _=>none) (fun l=>ob (jec l i) (fun p=>jfg p.1 p.2)) none none)
theorem j8q {x:Od}:pop st fr (.ext i x)=qv2 i (ev st fr x):=rfl
def mk1 (p:Option (Bool×List SV)):Option AV:=ob p (fun p=>jfg p.1 p.2)
theorem ju2 {a:Bool} {l:List SV}:mk1 (some (a,l))=jfg a l:=rfl
theorem ju3 {l:List (Bool×List SV)}:qv2 i (some (.tup l))=mk1 (jec l i):=rfl
def ldR (h:Hp) (agg:Bool) (cs:Option (List SV)):R:=ob cs (fun cs=>ob (jfg agg cs) (fun v=>ok v h))
theorem qi0 {cs:List SV}:ldR h true (some cs)=some (.agg cs,h):=rfl
theorem qi1 {a:SV}:ldR h false (some [a])=some (.s a,h):=rfl
def qi2 (h:Hp) (n:Nat) (agg:Bool) (x:Option AV):R:=ob x (fun v=>ob (jny h n agg v) (fun v=>ok v h))
theorem j03 {n:Nat} {x:Od}:jdy st fr h (.load n agg x)=qi2 h n agg (ev st fr x):=j2w
theorem jqy {n b:Nat}:qi2 h n agg (some (.s (.ptr b o)))=ldR h agg (rdB (h.get b) o n):=by
 show ob (ob (rdB (h.get b) o n) _) _=_
 rw[qis];rfl
theorem ju4 {n:Nat} {cs:List SV}:qi2 h n agg (some (.s (.cp cs)))=ldR h agg (jbp n cs):=by
 show ob (ob (jbp n cs) _) _=_
 rw[qis];rfl
def jim (h:Hp) (n:Nat) (x y:Option AV):R:=ob x (fun p=>ob y (fun v=>j8c h n p v))
theorem ju5 {n:Nat} {x v:Od}:jdy st fr h (.store n x v)=jim h n (ev st fr x) (ev st fr v):=rfl
def stR (h:Option Hp):R:=ob h (fun h=>ok .undef h)
theorem ju6:stR (some h)=some (.undef,h):=rfl
theorem qdf {b:Nat} {x:SV} (k:Ok h):jim h 1 (some (.s (.ptr b o))) (some (.s x))=stR (wrB h b (h.get b) o [x]):=qde k
theorem j5m {n b:Nat} {cs:List SV} (k:Ok h) (hn:cs.length=n):jim h n (some (.s (.ptr b o))) (some (.agg cs))=stR (wrB h b (h.get b) o cs):=j5i k hn
def qv3 (h:Hp) (e:TypeId) (size bytes:Nat) (x y:Option AV):R:=ob x (fun v=>ob y (fun w=>juf h e size bytes v w))
theorem j8r {e:TypeId} {size:Nat} {x y:Od}:jdy st fr h (.app e size bytes x y)=qv3 h e size bytes (ev st fr x) (ev st fr y):=rfl
theorem jqz {e:TypeId} {size:Nat}:qv3 h e size bytes (some v) (some w)=juf h e size bytes v w:=rfl
def bsO (h:Hp) (e:TypeId) (size len:Nat) (x:Option (List SV)):R:=ob x (fun cs=>some (.s (.slice h.next 0 len len true size),h.push (.arr cs e)))
theorem ju7 {e:TypeId} {size len:Nat} {cs:List SV}:bsO h e size len (some cs)=some (.s (.slice h.next 0 len len true size),h.push (.arr cs e)):=rfl
theorem j8s {e:TypeId} {size:Nat} {len:Nat} {ps:List (Nat×Nat×Od)} (k:Ok h):jdy st fr h (.bslice e size z len ps)=bsO h e size len (fill st fr ps z):=j5j k
def qsq (h:Hp) (e:TypeId) (x:Option AV):R:=ob x (fun v=>cel v (fun cs=>some (.s (.ptr h.next 0),h.push (.arr cs e))))
theorem qpu {e:TypeId} {x:Od} (k:Ok h):jdy st fr h (.box e x)=qsq h e (ev st fr x):=qiu k
theorem j8t {e:TypeId} {x:SV}:qsq h e (some (.s x))=some (.s (.ptr h.next 0),h.push (.arr [x] e)):=rfl
theorem ju8 {e:TypeId} {cs:List SV}:qsq h e (some (.agg cs))=some (.s (.ptr h.next 0),h.push (.arr cs e)):=rfl
def qv4 (h:Hp) (e:TypeId) (size bytes:Nat) (z:List SV) (x y:Option AV):R:=ob x (fun v=>ob y (fun u=>qps h e size bytes z v u))
theorem jm0 {e:TypeId} {size:Nat} {l c:Od}:jdy st fr h (.mkslice e size bytes z l c)=qv4 h e size bytes z (ev st fr l) (ev st fr c):=rfl
theorem jq0 {e:TypeId} {size:Nat}:qv4 h e size bytes z (some v) (some w)=qps h e size bytes z v w:=rfl
def re1 (h:Hp) (x:Option (Bool×List SV)):R:=ob x (fun p=>ob (jfg p.1 p.2) (fun v=>some (v,h)))
theorem j8u {r:IR}:jco (.mk fr h) [r]=re1 h (jnx fr h r):=j5k
theorem qi3 {a:SV}:re1 h (some (false,[a]))=some (.s a,h):=rfl
theorem qi4 {l:List SV}:re1 h (some (true,l))=some (.agg l,h):=rfl
def reT (g:Option AV):Option (Bool×List SV):=ob g qwm
theorem j8v:jnx fr h (.tmp g)=reT (jec fr g):=rfl
theorem qi5 {x:SV}:reT (some (.s x))=some (false,[x]):=rfl
theorem j04 {x:List SV}:reT (some (.agg x))=some (true,x):=rfl
def reC (h:Hp) (n:Nat) (agg:Bool) (g:Option AV):Option (Bool×List SV):=ob g (fun v=>jws v (fun b off=>ob (rdB (h.get b) off n) (fun cs=>some (agg,cs))))
theorem j05 {n:Nat}:jnx fr h (.cell g n agg)=reC h n agg (jec fr g):=rfl
def reP (agg:Bool) (x:Option (List SV)):Option (Bool×List SV):=ob x (fun cs=>some (agg,cs))
theorem ju9 {cs:List SV}:reP agg (some cs)=some (agg,cs):=rfl
theorem j06 {n b:Nat}:reC h n agg (some (.s (.ptr b o)))=reP agg (rdB (h.get b) o n):=rfl
def qtp (x:R) (Q:AV->Hp->Prop):Prop:=obP x (fun p=>Q p.1 p.2)
theorem jq1 {Q:AV->Hp->Prop}:qtp (some (v,h)) Q=Q v h:=jcb
theorem jju {res:List IR} {Q:AV->Hp->Prop}:qc5 res Q .normal s=qtp (jco s res) Q:=rfl
theorem jva {res:List IR} {Q:AV->Hp->Prop}:qc5 res Q .ret s=qtp (jco s res) Q:=rfl
def re2 (h:Hp) (x:Option (List (Bool×List SV))):R:=ob x (fun vs=>some (.tup vs,h))
theorem jvb {l:List (Bool×List SV)}:re2 h (some l)=some (.tup l,h):=rfl
theorem j8w {r r':IR} {k:List IR}:jco (.mk fr h) (r::r'::k)=re2 h (jgs fr h (r::r'::k)):=j5l
theorem jcs {size b off len mc sz:Nat} {ex:Bool} (hm:1<len):jza size (.s (.slice b off len mc ex sz)) (vi 1)=some (.s (.ptr b (off+size))):=by
 have:=jbg (size:=size) (b:=b) (off:=off) (len:=len) (mc:=mc) (sz:=sz) (ex:=ex) hm
 rw[Nat.one_mul] at this;exact this
theorem jd6 {n size b off:Nat} (hm:0<n):qff n size (.s (.ptr b off)) (vi 0)=some (.s (.ptr b off)):=by
 have:=jc4 (n:=n) (size:=size) (b:=b) (off:=off) hm
 rw[f16,f1i] at this;exact this
theorem jd7 {n size b off:Nat} (hm:1<n):qff n size (.s (.ptr b off)) (vi 1)=some (.s (.ptr b (off+size))):=by
 have:=jc4 (n:=n) (size:=size) (b:=b) (off:=off) hm
 rw[Nat.one_mul] at this;exact this
theorem je5 {n size:Nat} {cs:List SV} (hm:0<n):qff n size (.s (.cp cs)) (vi 0)=some (.s (.cp cs)):=by
 have:=jfp (n:=n) (size:=size) (cs:=cs) hm
 rw[f16] at this;exact this
theorem je6 {n size:Nat} {cs:List SV} (hm:1<n):qff n size (.s (.cp cs)) (vi 1)=some (.s (.cp (jb4 size cs))):=by
 have:=jfp (n:=n) (size:=size) (cs:=cs) hm
 rw[Nat.one_mul] at this;exact this
theorem jvc [k:Ok h]:h.hid=[]:=k.hid
theorem jk0 [k:Ok h] {n:Nat} {hid:List (Nat×Nat)}:(h.hide lo hid).get n=if jao hid n=true then none else h.get n:=qdd k
theorem jk1 [k:Ok h] {e:TypeId} {size:Nat} {len:Nat} {ps:List (Nat×Nat×Od)}:jdy st fr h (.bslice e size z len ps)=bsO h e size len (fill st fr ps z):=j8s k
theorem jvd [k:Ok h] {e:TypeId} {x:Od}:jdy st fr h (.box e x)=qsq h e (ev st fr x):=qpu k
theorem jk2 [k:Ok h] {e:TypeId}:jdy st fr h (.new e z)=some (.s (.ptr h.next 0),h.push (.arr z e)):=qit k
theorem jve [k:Ok h] {b:Nat} {x:SV}:jim h 1 (some (.s (.ptr b o))) (some (.s x))=stR (wrB h b (h.get b) o [x]):=qdf k
theorem jjv [k:Ok h] {n b:Nat} {cs:List SV} (hn:cs.length=n):jim h n (some (.s (.ptr b o))) (some (.agg cs))=stR (wrB h b (h.get b) o cs):=j5m k hn
theorem jk3 [k:Ok h] {b:Nat} {t:SV}:jim h 2 (some (.s (.ptr b o))) (some (.agg [t,u]))=stR (wrB h b (h.get b) o [t,u]):=jjv rfl
theorem jk4 [k:Ok h] {b:Nat} {t v:SV}:jim h 3 (some (.s (.ptr b o))) (some (.agg [t,u,v]))=stR (wrB h b (h.get b) o [t,u,v]):=jjv rfl
theorem jk5 [k:Ok h] {b:Nat} {t v w:SV}:jim h 4 (some (.s (.ptr b o))) (some (.agg [t,u,v,w]))=stR (wrB h b (h.get b) o [t,u,v,w]):=jjv rfl
theorem jk6 [k:Ok h] {b:Nat} {t v w x:SV}:jim h 5 (some (.s (.ptr b o))) (some (.agg [t,u,v,w,x]))=stR (wrB h b (h.get b) o [t,u,v,w,x]):=jjv rfl
theorem jk7 [k:Ok h] {b:Nat} {t v w x:SV}:jim h 6 (some (.s (.ptr b o))) (some (.agg [t,u,v,w,x,y]))=stR (wrB h b (h.get b) o [t,u,v,w,x,y]):=jjv rfl
theorem jk8 [k:Ok h] {b:Nat} {t v w x z:SV}:jim h 7 (some (.s (.ptr b o))) (some (.agg [t,u,v,w,x,y,z]))=stR (wrB h b (h.get b) o [t,u,v,w,x,y,z]):=jjv rfl
theorem jk9 [k:Ok h] {x:AB} {n:Nat}:(h.push x).get n=if n=h.next then some x else h.get n:=ja6 k
theorem jla [k:Ok h] {b n:Nat} {x:Option AB} (hb:1<=b):(h.put b x).get n=if n=b then x else h.get n:=jak k hb
def mkL (agg:Bool) (x:Option (List SV)):Option AV:=ob x (fun cs=>jfg agg cs)
theorem qi6 {cs:List SV}:mkL true (some cs)=some (.agg cs):=rfl
theorem qi7 {a:SV}:mkL false (some [a])=some (.s a):=rfl
theorem j8x {n b:Nat}:jny h n agg (.s (.ptr b o))=mkL agg (rdB (h.get b) o n):=rfl
theorem qi8 {n:Nat} {cs:List SV}:jny h n agg (.s (.cp cs))=mkL agg (jbp n cs):=rfl
theorem qi9 {a b:Int} (h1:0<=a) (h3:0<b):0<=a % b/\a % b<=a:=by
 have h2:=Int.emod_add_mul_ediv a b
 have h:=Int.ediv_nonneg h1 (Int.le_of_lt h3)
 have h4:=Int.mul_nonneg (Int.le_of_lt h3) h
 exact⟨Int.emod_nonneg a (by omega),by omega⟩
theorem jfr {a b:Int} (h1:0<=a) (h2:a<=9223372036854775807) (h3:0<b):jep .rem (.int .i64 a) (.int .i64 b)=some (vi (a % b)):=by
 have:=qi9 h1 h3
 rw[j0g,if_neg (by omega),f2y h1,jiz (by omega) (by omega)]
theorem j8y {a b:Int} (h1:-9223372036854775808<=a) (h2:a<=9223372036854775807) (h3:0<b):-9223372036854775808<=a.tdiv b/\a.tdiv b<=9223372036854775807:=by
 have h:=Int.natAbs_tdiv_le_natAbs a b
 rcases(by omega:a<0∨0<=a) with h4 | h4
 .have h5:a.tdiv b<=0:=by
   obtain⟨c,rfl⟩:∃ c,a=-c:=⟨-a,by omega⟩
   rw[Int.neg_tdiv]
   have:=Int.tdiv_nonneg (a:=c) (b:=b) (by omega) (Int.le_of_lt h3)
   omega
  omega
 .omega
theorem jjw {a b:Int} (h1:-9223372036854775808<=a) (h2:a<=9223372036854775807) (h3:0<b):jep .quo (.int .i64 a) (.int .i64 b)=some (vi (a.tdiv b)):=by
 have:=j8y h1 h2 h3
 rw[qio,if_neg (by omega),jiz this.1 this.2]
theorem jjx {a n:Int} {k:IntKind} (h1:0<=n) (h2:n<=63):jep .shr (.int .i64 a) (.int k n)=some (vi (a / 2 ^ n.toNat)):=by
 obtain⟨m,rfl⟩:=Int.eq_ofNat_of_zero_le h1
 exact qip (by omega)
theorem je7 {a n:Nat}:(a=a+(n+1))=False:=eq_false (by omega)
theorem je8 {a n:Nat}:(a+(n+1)=a)=False:=eq_false (by omega)
theorem qdg {e:TypeId} {x:SV} (ok:Ok h) (h1:bytes<=1000):qps h e 1 bytes [x] (vi 2) (vi 2)=some (.s (.slice h.next 0 2 2 true 1),h.push (.arr [x,x] e)) :=
 j0h (m:=2) ok (by omega) (by omega)
theorem jhm [ok:Ok h] {e:TypeId} {x:SV} (h1:bytes<=1000):qps h e 1 bytes [x] (vi 2) (vi 2)=some (.s (.slice h.next 0 2 2 true 1),h.push (.arr [x,x] e)):=qdg ok h1
theorem jj5 {a b:Nat} (h:a≠b):(a=b)=False:=eq_false h
theorem jdz {a b:Nat} (h:b<a):(a<=b)=False:=eq_false (by omega)
theorem jd0 {a b:Nat} (h:b<=a):(a<b)=False:=eq_false (by omega)
theorem jj6 {a b:Nat} (h:a<=b):(a<=b)=True:=eq_true h
theorem jj7 {a b:Nat} (h:a<b):(a<b)=True:=eq_true h
theorem qwo {a b:Int} (h:a<=b):(a<=b)=True:=eq_true h
theorem qwp {a b:Int} (h:a<b):(a<b)=True:=eq_true h
def qja (F:Fns) (dst:Option Nat) (m:List (IOper×Option (List Nat))) (st:List AV) (es:List Ent) (fr:List AV) (h:Hp) (Q:Ex->St->Prop) (v:AV) (h':Hp):Prop:=WD F m (v::st) (.mk [(h.next,h'.next)] none::es) (jcn fr dst v) (.mk h'.next h'.tr h.lo h.hid) Q
def zkH (F:Fns) (x:Option (List (Nat×Nat))) (vs:Option (List AV)) (f:FuncId) (dst:Option Nat) (m:List (IOper×Option (List Nat))) (st:List AV) (es:List Ent) (fr:List AV) (h:Hp) (Q:Ex->St->Prop):Prop:=obP x (fun hid'=>obP vs (fun vs=>WC F f vs (h.hide h.next hid') (qja F dst m st es fr h Q)))
theorem jvf {x:List (Nat×Nat)} {f:FuncId}:zkH F (some x) (some vs) f dst m st es fr h Q=WC F f vs (h.hide h.next x) (qja F dst m st es fr h Q):=by
 unfold zkH;rw[jcb,jcb]
theorem jm1 {x:List (Nat×Nat)}:qja F dst m st es fr h Q v (h.hide lo x)=WD F m (v::st) (.mk [(h.next,h.next)] none::es) (jcn fr dst v) h Q:=by cases h;rfl
theorem jhn {f:FuncId} {as:List Od}:WD F ((.mk dst (.a (.call f as)) none,some js)::m) st es fr h Q=zkH F (sel es js h.hid) (evs st fr as) f dst m st es fr h Q:=by
 cases h with
 | mk k t lo hid =>
 rw[jpz]
 have key:∀ n v h' e,jy9 (jbr F (run F n)) st fr es (.mk k t lo hid) (.a (.call f as)) none (some js)=some (.mk v h' e)↔∃ x vs h1,sel es js hid=some x/\evs st fr as=some vs/\jbr F (run F n) f vs (.mk k t k x)=some (v,h1)/\h'=.mk h1.next h1.tr lo hid/\e=.mk [(k,h1.next)] none:=fun n v h' e=>by
  have e0:jy9 (jbr F (run F n)) st fr es (.mk k t lo hid) (.a (.call f as)) none (some js)=ob (sel es js hid) (fun x=>ob (ob (evs st fr as) (fun vs=>jbr F (run F n) f vs (.mk k t k x))) (fun p=>Hp.casesOn (motive:=fun _=>Option DR) p.2 (fun n' t' _ _=>some (.mk p.1 (.mk n' t' lo hid) (.mk [(k,n')] none))))):=rfl
  rw[e0]
  constructor
  .intro h1
   obtain⟨x,hx,h2⟩:=jaa.1 h1
   obtain⟨p,hp,h3⟩:=jaa.1 h2
   obtain⟨vs,hvs,h4⟩:=jaa.1 hp
   obtain⟨v1,⟨n1,t1,l1,d1⟩⟩:=p
   cases h3
   exact⟨x,vs,_,hx,hvs,h4,rfl,rfl⟩
  .rintro ⟨x,vs,⟨n1,t1,l1,d1⟩,hx,hvs,h4,rfl,rfl⟩
   exact jaa.2 ⟨x,hx,jaa.2 ⟨(v,.mk n1 t1 l1 d1),jaa.2 ⟨vs,hvs,h4⟩,rfl⟩⟩
 refine propext ⟨fun⟨n,v,h',e,h1,h2⟩=>?_,fun⟨x,hx,vs,hvs,n,v,h1,h2,h3⟩=>⟨n,v,_,_,(key n v _ _).2 ⟨x,vs,h1,hx,hvs,h2,rfl,rfl⟩,h3⟩⟩
 obtain⟨x,vs,h3,hx,hvs,h4,rfl,rfl⟩:=(key n v h' e).1 h1
 exact⟨x,hx,vs,hvs,n,v,h3,h4,h2⟩
theorem jdo {a:Nat} {n:Nat}:((a:Int) / 2 ^ n)=((a / 2 ^ n:Nat):Int):=by
 rw[Int.natCast_ediv,f3c];rfl
theorem jdp:(4+(i:Int)).toNat=4+i:=by omega
theorem jdq:(9+(i:Int)).toNat=9+i:=by omega
theorem jdr:(i:Int).toNat=i:=by omega
theorem jjy {a:Nat}:decide ((a:Int) % 2=1)=decide (a % 2=1):=decide_eq_decide.2 (by omega)
theorem jfs {a:Nat}:(a:Int).tdiv 4=((a / 4:Nat):Int):=rfl
theorem jft {a:Nat}:(a:Int).tdiv 5=((a / 5:Nat):Int):=rfl
theorem jg3 {x:Option AB} {off sz:Nat} {c:SV} (hr:rdB x off sz=some row) (hj:row[j]?=some c):rdB x (off+j) 1=some [c]:=by
 cases x with
 | none=>cases hr
 | some x =>
  cases x with
  | map va es=>cases hr
  | arr cs ty =>
   rw[jgm,jb8] at hr ⊢
   obtain⟨h1,rfl⟩:=(ja5 _).1 hr
   have hjs:j<sz:=by
    rcases f0h j sz with h | h
    .exact h
    .rw [f0p (by simp;omega)] at hj;cases hj
   have hj2:cs[off+j]?=some c:=by
    rw[f15,if_pos hjs,f1f] at hj;exact hj
   have hl:off+j<cs.length:=by
    rcases f0h (off+j) cs.length with h | h
    .exact h
    .rw [f0p h] at hj2;cases hj2
   refine(ja5 _).2 ⟨by simp;omega,?_⟩
   have e:cs.drop (off+j)=c::cs.drop (off+j+1):=by
    rw[f08 hl]
    rw[f0b hl] at hj2
    rw[Option.some.inj hj2]
   rw[e];rfl
def mmV (mx:Bool) (x y:Option AV):Option AV:=ob x (fun a=>ob y (fun b=>jn3 a (fun k m=>jn3 b (fun k' n=>oif (Nat.beq (ikn k) (ikn k')) (some (.s (.int k (oif (ile m n) (oif mx n m) (oif mx m n))))) none))))
theorem qjb {mx:Bool} {x y:Od}:pop st fr (.mm mx x y)=mmV mx (ev st fr x) (ev st fr y):=rfl
theorem j07 {a b:Int}:mmV false (some (.s (.int .i64 a))) (some (.s (.int .i64 b)))=some (vi (if a<=b then a else b)):=by
 show some (AV.s (.int .i64 (oif (ile a b) a b)))=_
 rw[jap,jd2];simp only[decide_eq_true_eq]
theorem j08 {a b:Int}:mmV true (some (.s (.int .i64 a))) (some (.s (.int .i64 b)))=some (vi (if a<=b then b else a)):=by
 show some (AV.s (.int .i64 (oif (ile a b) b a)))=_
 rw[jap,jd2];simp only[decide_eq_true_eq]
end
theorem qwq:type_of% @Int.cast_ofNat_Int:=@Int.cast_ofNat_Int
theorem qwr:type_of% @Int.natCast_zero:=@Int.natCast_zero
theorem qws:type_of% @Int.natCast_one:=@Int.natCast_one
theorem qwt:type_of% @decide_eq_true_eq:=@decide_eq_true_eq
theorem qwu:type_of% @decide_eq_false_iff_not:=@decide_eq_false_iff_not
theorem qwv:type_of% @Bool.false_eq_true:=@Bool.false_eq_true
theorem qww:type_of% @and_true:=@and_true
theorem qwx:type_of% @true_and:=@true_and
theorem qwy:type_of% @List.cons_append:=@List.cons_append
theorem qwz:type_of% @List.nil_append:=@List.nil_append
theorem qtq:type_of% @decide_true:=@decide_true
theorem qtr:type_of% @decide_false:=@decide_false
theorem qts:type_of% @Bool.not_true:=@Bool.not_true
theorem qtt:type_of% @Bool.not_false:=@Bool.not_false
theorem qtu:type_of% @Nat.add_zero:=@Nat.add_zero
theorem qtv:type_of% @Nat.zero_add:=@Nat.zero_add
theorem qtw:type_of% @Option.some.injEq:=@Option.some.injEq
theorem qtx:type_of% @Bool.true_eq_false:=@Bool.true_eq_false
theorem qty:type_of% @not_true_eq_false:=@not_true_eq_false
theorem qtz:type_of% @not_false_eq_true:=@not_false_eq_true
theorem qt0:type_of% @Hp.next_push:=@Hp.next_push
theorem qt1:type_of% @Hp.next_put:=@Hp.next_put
theorem qt2:type_of% @Nat.add_assoc:=@Nat.add_assoc
attribute [go_sem] jhn jvf jm1 j7l qh8 j7m qc1 jzz j0k jum jt0 j7n j7o j0l juh j0m juk juj jun jul jqk jui j7q j0n juo jup j0o jur juq jut jus jql jik jqm jil jqn jgn jqo j0p jkz jgd jmg jpv jjm jpw jtz jii jmh jpx j8f j8h jqp jmx j0q juu j8j j0s juw juy j0u j0w jqr j0y j8g j8i jqq jmy j0r juv j8k j0t jux juz j0v j0x jqs j0z qtj qtk qtl jz5 jt3 jp4 jp5 jp6 jp7 jp8 jp9 jjq jjr qil qtm jbn qim jqa jt4 jmk jt5 jml qin jz6 j71 j72 j73 jt6 jmm jmn jmo jmp jqb jt7 jqc jqd jmq jij jdu jqe jz7 jz8 qjb j07 j08 j74 j02 jmz jqf jt8 jqg j8l jqt jz9 j0a j8m ju0 j00 jt9 j8q ju3 ju2 j01 jqu ju1 jua jkx jub jqh jmr jjs jqi juc jud j8n jqv jue jky jms jqj j0d j0e j0f jjw jfr jjx j76 j77 j78 j79 j8a j8b j8o jqw j8p jqx j8u qi3 qi4 j8v qi5 j04 j05 ju9 j06 jq1 jju jva jmv jfq jmw j8w jvb qiw jgm jmu j03 jqy ju4 qi0 qi1 ju5 ju6 jm0 jq0 j8r jqz ju7 j8t ju8 j0j j8e j0i jug jmt jjt j8x qi8 qi6 qi7 je7 je8 jcs jc4 jfp jd6 jd7 je5 je6 jvc jk0 jk1 jvd jk2 jve jk3 jk4 jk5 jk6 jk7 jk8 jjv jk9 jla jhm jcr jbg qwq qwr qws qwt qwu qwv qww qwx qwy qwz qtq qtr qts qtt qtu qtv qtw qtx qty qtz qt0 qt1 qt2
end
end Go.Proofs.YtdbklpgagdbpiaaDoor.Ev
