/- Open runs: what operations answer at values that are known in part. No program in sight. -/
import Derived.Test.YthbghmhjgdonmaaOp
namespace Go.Proofs.Ythbghmhjgdonmaa.Ev
noncomputable section
open Go Go.RowKit
set_option linter.all false
variable {t agg ex':Bool} {rows:List (List SV)} {vs:List AV} {js:List Nat} {z xs row:List SV} {g i j o b' lo o' mc' sz' bytes:Nat} {u:SV}
abbrev vi (n:Int):AV:=.s (.int .i64 n)
abbrev vb (b:Bool):AV:=.s (.bool b)
abbrev si (n:Int):SV:=.int .i64 n
section
variable {st fr:List AV} {h:Hp} {α β:Type}
theorem qrp:ev st fr (.l i)=jd9 st i:=rfl
theorem qrq:ev st fr (.g i)=jd9 fr i:=rfl
theorem qrr {v:AV}:ev st fr (.c v)=some v:=rfl
theorem jx4:evs st fr []=some []:=rfl
theorem jsn {o:Od} {l:List Od}:evs st fr (o::l)=ob (ev st fr o) (fun v=>ob (evs st fr l) (fun r=>some (v::r))):=rfl
theorem jos {a:α} {l:List α}:jd9 (a::l) 0=some a:=rfl
theorem jot {a:α} {l:List α} {n:Nat}:jd9 (a::l) (n+1)=jd9 l n:=rfl
theorem jou {a x:α} {l:List α}:ju6 (a::l) 0 x=x::l:=rfl
theorem jov {a x:α} {l:List α} {n:Nat}:ju6 (a::l) (n+1) x=a::ju6 l n x:=rfl
theorem jow {v:AV}:jcp fr none v=fr:=rfl
theorem jox {d:Nat} {v:AV}:jcp fr (some d) v=ju6 fr d v:=rfl
theorem jir:jcz 0=[]:=rfl
theorem jis {n:Nat}:jcz (n+1)=.undef::jcz n:=rfl
theorem qrs {a:α} {f:α->Option β}:ob (some a) f=f a:=rfl
theorem qrt {f:α->Option β}:ob none f=none:=rfl
theorem jbi {b:Bool} {x y:α}:oif b x y=if b=true then x else y:=by cases b<;>rfl
theorem qgp {e:Option β} {x:SV} {f:SV->Option β}:svc e (.s x) f=f x:=rfl
theorem joy {e:Option β} {f:SV->Option β}:svc e .undef f=e:=rfl
theorem jso {k:IntKind} {n:Int} {f:IntKind->Int->Option β}:j95 (.int k n) f=f k n:=rfl
theorem jln {b:Bool} {f:Bool->Option β}:jqh (.bool b) f=f b:=rfl
theorem jsp {k:IntKind} {n:Int} {f:IntKind->Int->Option β}:jkt (.s (.int k n)) f=f k n:=rfl
theorem jlp {b:Bool} {f:Bool->Option β}:jii (.s (.bool b)) f=f b:=rfl
theorem qgq {x:SV} {f:List SV->Option β}:cel (.s x) f=f [x]:=rfl
theorem jx5 {l:List SV} {f:List SV->Option β}:cel (.agg l) f=f l:=rfl
theorem j5q {a:SV}:jfz false [a]=some (.s a):=rfl
theorem j5r {l:List SV}:jfz true l=some (.agg l):=rfl
theorem j5s {x:SV} {f:List SV->Option β}:j96 false (.s x) f=f [x]:=rfl
theorem jsq {l:List SV} {f:List SV->Option β}:j96 true (.agg l) f=f l:=rfl
theorem jlq {l:List α}:jb2 0 l=some []:=rfl
theorem jlr {a:α} {l:List α} {n:Nat}:jb2 (n+1) (a::l)=ob (jb2 n l) (fun x=>some (a::x)):=rfl
theorem jls {l:List α}:jb8 0 l=l:=rfl
theorem jlt {a:α} {l:List α} {n:Nat}:jb8 (n+1) (a::l)=jb8 n l:=rfl
theorem joz {n:Nat}:jb8 n ([]:List α)=[]:=by cases n<;>rfl
theorem jsr:jdg ([]:List α)=0:=rfl
theorem jo0 {a:α} {l:List α}:jdg (a::l)=jdg l+1:=rfl
theorem jo1 {l:List α}:jnm [] l=some l:=rfl
theorem jlu {x a:α} {xs l:List α}:jnm (x::xs) (a::l)=ob (jnm xs l) (fun y=>some (x::y)):=rfl
theorem jhe {xs l:List α}:jbp 0 xs l=jnm xs l:=rfl
theorem jdj {a:α} {xs l:List α} {n:Nat}:jbp (n+1) xs (a::l)=ob (jbp n xs l) (fun y=>some (a::y)):=rfl
theorem jo2 {a:Nat}:Nat.beq a a=true:=f1z a
theorem jx6 {a b:Nat}:(Nat.beq a b=true)=(a=b):=jgw a b
theorem jx7 {a b:Nat}:(Nat.ble a b=true)=(a<=b):=jry a b
theorem j5t {x:Od}:pop st fr (.mv x)=ev st fr x:=rfl
theorem jo3 {ps:List (Nat×Nat×Od)}:pop st fr (.build z ps)=ob (fill st fr ps z) (fun cs=>some (.agg cs)):=rfl
theorem jss {cs:List SV}:fill st fr [] cs=some cs:=rfl
theorem jo4 {off n:Nat} {o:Od} {ps:List (Nat×Nat×Od)} {cs:List SV}:fill st fr ((off,n,o)::ps) cs=ob (ev st fr o) (fun v=>cel v (fun xs=>oif (Nat.beq (jdg xs) n) (ob (jbp off xs cs) (fill st fr ps)) none)):=rfl
theorem jx8 {x:Od}:pop st fr (.not x)=ob (ev st fr x) (fun v=>jii v (fun b=>some (.s (.bool (!b))))):=by
 show ob (ev st fr x) (fun v=>jii v (fun b=>some (AV.s (.bool (ji8 b)))))=_
 congr 1;funext v;congr 1;funext b;cases b<;>rfl
theorem jx9 {x:Od}:pop st fr (.neg x)=ob (ev st fr x) (fun v=>jkt v (fun k n=>j3w k (-n))):=rfl
theorem jst {off n:Nat} {x:Od}:pop st fr (.fval off n agg x)=none:=rfl
theorem jsu {k:IntKind} {x:Od}:pop st fr (.conv k x)=ob (ev st fr x) (fun v=>jkt v (fun _ n=>j2f k n)):=rfl
theorem jjz {f:FuncId} {cs:List Od}:pop st fr (.mkfun f cs)=ob (evs st fr cs) (fun vs=>ob (qcn vs) (fun ps=>some (.s (.func f ps)))):=rfl
theorem jsv:qcn []=some []:=rfl
theorem jo5 {b:Nat} {l:List AV}:qcn (.s (.ptr b o)::l)=ob (qcn l) (fun r=>some ((b,o)::r)):=rfl
theorem jlv:jeu []=[]:=rfl
theorem jit {b:Nat} {l:List (Nat×Nat)}:jeu ((b,o)::l)=.s (.ptr b o)::jeu l:=rfl
theorem jo6 {b:Nat} {f:Nat->Nat->Option β} {g:List SV->Option β}:jet (.s (.ptr b o)) f g=f b o:=rfl
theorem jsw {cs:List SV} {f:Nat->Nat->Option β} {g:List SV->Option β}:jet (.s (.cp cs)) f g=g cs:=rfl
theorem jsx {b:Nat} {f:Nat->Nat->Option β}:jqv (.s (.ptr b o)) f=f b o:=rfl
def jri (v:AV):Option AV:=jch v (some (.s (.int .i64 0))) (fun _ _ n _ _ _=>some (.s (.int .i64 (Int.ofNat n)))) (fun rows=>some (.s (.int .i64 (Int.ofNat (jdg rows))))) (some (.s (.int .i64 0)))
theorem jsy:jri (.s .nilSlice)=some (vi 0):=rfl
theorem jj0:jri (.s (.lst rows))=some (vi rows.length):=by
 show some (AV.s (.int .i64 (Int.ofNat (jdg rows))))=_
 rw[jbm];rfl
theorem jlw {b n mc sz:Nat} {e:Bool}:jri (.s (.slice b o n mc e sz))=some (vi n):=rfl
def j5u (n:Int):Option AV:=if -9223372036854775808<=n/\n<=9223372036854775807 then some (vi n) else none
theorem qa5 {n:Int} (h1:-9223372036854775808<=n) (h2:n<=9223372036854775807):inR .i64 n=true:=by
 cases n with
 | ofNat m=>exact(jry m 9223372036854775807).symm▸(by have:(m:Int)<=9223372036854775807:=h2
                                                      omega)
 | negSucc m=>exact(jry m 9223372036854775807).symm▸(by have:-9223372036854775808<=Int.negSucc m:=h1
                                                        omega)
theorem jo7 {n:Int}:j3w .i64 n=j5u n:=by
 unfold j5u
 show oif (inR .i64 n) (some (AV.s (.int .i64 n))) none=_
 split
 .rename_i h;rw[qa5 h.1 h.2];rfl
 .rename_i h
  cases e:inR .i64 n with
  | false=>rfl
  | true =>
   rcases jep e with⟨_,a,b⟩ | ⟨e,_⟩ | ⟨e,_⟩
   .exact absurd ⟨a,b⟩ h
   .cases e
   .cases e
theorem jhz {n:Int} (h1:-9223372036854775808<=n) (h2:n<=9223372036854775807):j5u n=some (vi n):=if_pos ⟨h1,h2⟩
def w64 (n:Int):Int:=IntKind.wrap .i64 n
theorem jad {n:Int} (h1:-9223372036854775808<=n) (h2:n<=9223372036854775807):w64 n=n:=jjd (qa5 h1 h2)
theorem jya {n:Int}:j93 .i64 n=some (vi (w64 n)):=by
 show oif (inR .i64 n) (some (AV.s (.int .i64 n))) (some (AV.s (.int .i64 (IntKind.wrap .i64 n))))=_
 cases e:inR .i64 n with
 | true=>rw[show w64 n=n from jjd e];rfl
 | false=>rfl
variable {a b:Int}
theorem jyb:jc8 .add (.int .i64 a) (.int .i64 b)=some (vi (w64 (a+b))):=by
 rw[←jya];show j93 .i64 (qmm a b)=_;rw[j4b]
theorem jyc:jc8 .sub (.int .i64 a) (.int .i64 b)=some (vi (w64 (a - b))):=by rw[←jya];rfl
theorem jyd:jc8 .mul (.int .i64 a) (.int .i64 b)=some (vi (w64 (a*b))):=by rw[←jya];rfl
theorem qgr:jc8 .quo (.int .i64 a) (.int .i64 b)=if b=0 then none else j5u (a.tdiv b):=by
 rw[←jo7]
 show oif (ieq b 0) none (j3w .i64 (a.tdiv b))=_
 rw[jau,jda];simp only[decide_eq_true_eq]
theorem jye:jc8 .rem (.int .i64 a) (.int .i64 b)=if b=0 then none else j5u (a.tmod b):=by
 rw[←jo7]
 show oif (ieq b 0) none (j3w .i64 (a.tmod b))=_
 rw[jau,jda];simp only[decide_eq_true_eq]
theorem j5v:jc8 .eq (.int .i64 a) (.int .i64 b)=some (vb (decide (a=b))):=by
 show some (AV.s (.bool (ieq a b)))=_;rw[jda]
theorem j5w:jc8 .ne (.int .i64 a) (.int .i64 b)=some (vb (decide (a≠b))):=by
 show some (AV.s (.bool (ji8 (ieq a b))))=_;rw[jda,jg2];congr 3;by_cases h:a=b<;>simp[h]
theorem j5x:jc8 .lt (.int .i64 a) (.int .i64 b)=some (vb (decide (a<b))):=by
 show some (AV.s (.bool (ji8 (ile b a))))=_;rw[jeb,jg2];congr 3;by_cases h:a<b<;>simp[h]
 omega
theorem j5y:jc8 .le (.int .i64 a) (.int .i64 b)=some (vb (decide (a<=b))):=by
 show some (AV.s (.bool (ile a b)))=_;rw[jeb]
theorem j5z:jc8 .gt (.int .i64 a) (.int .i64 b)=some (vb (decide (b<a))):=by
 show some (AV.s (.bool (ji8 (ile a b))))=_;rw[jeb,jg2];congr 3;by_cases h:b<a<;>simp[h]
 omega
theorem j50:jc8 .ge (.int .i64 a) (.int .i64 b)=some (vb (decide (b<=a))):=by
 show some (AV.s (.bool (ile b a)))=_;rw[jeb]
theorem qgs {n:Nat} {k:IntKind} (hn:n<=63):jc8 .shr (.int .i64 a) (.int k (n:Int))=some (vi (a / 2 ^ n)):=by
 have hs:j94 .i64 n=true:=by
  have hI:jnn .i64=true:=rfl
  unfold j94
  simp[jau,jry,hn,hI]
 have e:jc8 .shr (.int .i64 a) (.int k (n:Int))=ju8 .shr .i64 a (n:Int):=by
  show oif (Nat.beq (ikn .i64) (ikn k)) (ju8 .shr .i64 a n) (oif true (ju8 .shr .i64 a n) none)=_
  cases Nat.beq (ikn .i64) (ikn k)<;>rfl
 rw[e]
 cases a with
 | ofNat m =>
  show oif (j94 .i64 n) (some (AV.s (.int .i64 (Int.ofNat (Nat.div m (Nat.pow 2 n)))))) none=_
  rw[hs]
  have:Int.ofNat (Nat.div m (Nat.pow 2 n))=Int.ofNat m / 2 ^ n:=by
   show((m / 2 ^ n:Nat):Int)=(m:Int) / 2 ^ n
   rw[Int.natCast_ediv,f3e];rfl
  rw[this];rfl
 | negSucc m =>
  show oif (j94 .i64 n) (some (AV.s (.int .i64 (Int.negSucc (Nat.div m (Nat.pow 2 n)))))) none=_
  rw[hs]
  have:Int.negSucc (Nat.div m (Nat.pow 2 n))=Int.negSucc m / 2 ^ n:=by
   obtain⟨q,hq⟩:∃ q,2 ^ n=q+1:=⟨2 ^ n - 1,by have:=Nat.two_pow_pos n;omega⟩
   have h2:(2:Int) ^ n=((q+1:Nat):Int):=by rw[←hq,f3e];rfl
   have h3:Nat.pow 2 n=q+1:=hq
   rw[h2,h3];rfl
  rw[this];rfl
theorem jgl (h1:-9223372036854775808<=a) (h2:a<=9223372036854775807):jc8 .and (.int .i64 a) (.int .i64 1)=some (vi (a % 2)):=by
 have hr:=qa5 h1 h2
 cases a with
 | ofNat m =>
  show oif (inR .i64 (.ofNat m)) (some (AV.s (.int .i64 (.ofNat (Nat.land m 1))))) none=_
  rw[hr]
  have:Int.ofNat (Nat.land m 1)=Int.ofNat m % 2:=by
   rw[show Nat.land m 1=m % 2 from f19 m];rfl
  rw[this];rfl
 | negSucc m =>
  show oif (inR .i64 (.negSucc m)) (some (AV.s (.int .i64 (.ofNat (Nat.xor 1 (Nat.land 1 m)))))) none=_
  rw[hr]
  have:Int.ofNat (Nat.xor 1 (Nat.land 1 m))=Int.negSucc m % 2:=by
   have e:Nat.land 1 m=m % 2:=(Nat.and_comm 1 m).trans (f19 m)
   rw[e]
   rcases Nat.mod_two_eq_zero_or_one m with h | h
   .rw [h];show(1:Int)=_;omega
   .rw [h];show(0:Int)=_;omega
  rw[this];rfl
theorem qgt (h1:-9223372036854775808<=a) (h2:a<=9223372036854775807):jc8 .or (.int .i64 a) (.int .i64 1)=some (vi (a+(1 - a % 2))):=by
 have hr:=qa5 h1 h2
 cases a with
 | ofNat m =>
  show oif (inR .i64 (.ofNat m)) (some (AV.s (.int .i64 (.ofNat (Nat.lor m 1))))) none=_
  rw[hr]
  have:Int.ofNat (Nat.lor m 1)=Int.ofNat m+(1 - Int.ofNat m % 2):=by
   have e:m ||| 1=m+(1 - m % 2):=by
    have h1:(m ||| 1) / 2=m / 2:=by rw[Nat.or_div_two];simp
    have h2:(m ||| 1) % 2=1:=by rw[Nat.or_mod_two_eq_one];simp
    omega
   show((m ||| 1:Nat):Int)=(m:Int)+(1 - (m:Int) % 2)
   rw[e];omega
  rw[this];rfl
 | negSucc m =>
  show oif (inR .i64 (.negSucc m)) (some (AV.s (.int .i64 (.negSucc (Nat.xor m (Nat.land m 1)))))) none=_
  rw[hr]
  have:Int.negSucc (Nat.xor m (Nat.land m 1))=Int.negSucc m+(1 - Int.negSucc m % 2):=by
   have e:m ^^^ (m &&& 1)=m - m % 2:=by
    have h1:(m ^^^ (m &&& 1)) / 2=m / 2:=by rw[Nat.xor_div_two,Nat.and_div_two];simp
    have h2:¬ (m ^^^ (m &&& 1)) % 2=1:=by
     have e:m &&& 1=m % 2:=f19 m
     rw[e,Nat.xor_mod_two_eq_one];omega
    omega
   show Int.negSucc (m ^^^ (m &&& 1))=_
   rw[e];omega
  rw[this];rfl
end
class Ok (h:Hp):Prop where
 hid:h.hid=[]
 lo:h.lo=0
 pos:1<=h.next
theorem jh0 {a b:Nat} (h:a<=b):Nat.ble a b=true:=by rw[jry];exact h
theorem jds:Ok h0:=⟨rfl,rfl,f0e 1⟩
section
variable {h:Hp} {F:Fns} {st fr:List AV} {Q:Ex->St->Prop} {β:Type}
theorem ja4 {x:AB} (k:Ok h):Ok (h.push x):=⟨k.hid,k.lo,f2g k.pos⟩
theorem jap {b:Nat} {x:Option AB} (k:Ok h):Ok (h.put b x):=⟨by rw[Hp.hid_put];exact k.hid,by rw[Hp.lo_put];exact k.lo,by rw[Hp.next_put];exact k.pos⟩
instance iPush {x:AB} [k:Ok h]:Ok (h.push x):=ja4 k
instance iPut {b:Nat} {x:Option AB} [k:Ok h]:Ok (h.put b x):=jap k
theorem ja3 {x:AB} {n:Nat} (k:Ok h):(h.push x).get n=if n=h.next then some x else h.get n:=by
 rw[Hp.get_eq,Hp.get_eq,Hp.hid_push,k.hid]
 have e:jan [] n=false:=rfl
 rw[e]
 show(h.tr.put (Nat.succ h.next) h.next (some x)).get n=_
 split
 .rename_i hn;subst hn;exact jbq _ _ _ _ k.pos (jmd _)
 .rename_i hn;exact jbv _ _ _ _ n k.pos (jmd _) hn
theorem jaj {b n:Nat} {x:Option AB} (k:Ok h) (hb:1<=b):(h.put b x).get n=if n=b then x else h.get n:=by
 rw[Hp.get_eq,Hp.get_eq,Hp.hid_put,k.hid,Hp.tr_put]
 have e:jan [] n=false:=rfl
 rw[e]
 show(h.tr.put (Nat.succ b) b x).get n=_
 split
 .rename_i hn;subst hn;exact jbq _ _ _ _ hb (jmd _)
 .rename_i hn;exact jbv _ _ _ _ n hb (jmd _) hn
def Hp.hide (h:Hp) (lo:Nat) (hid:List (Nat×Nat)):Hp:=.mk h.next h.tr lo hid
theorem jlx {n:Nat}:jan [] n=false:=by cases n<;>rfl
theorem jiu {a b n:Nat} {l:List (Nat×Nat)}:jan ((a,b)::l) n=if a<=n/\n<b then true else jan l n:=by
 show oif (Nat.ble a n) (oif (Nat.ble (n+1) b) true (jan l n)) (jan l n)=_
 simp only[jau,jry]
 by_cases h1:a<=n
 .by_cases h2:n+1<=b
  .rw [if_pos h1,if_pos h2,if_pos ⟨h1,h2⟩]
  .rw [if_pos h1,if_neg h2,if_neg (fun h=>h2 h.2)]
 .rw [if_neg h1,if_neg (fun h=>h1 h.1)]
theorem qa6 {n:Nat} {hid:List (Nat×Nat)} (k:Ok h):(h.hide lo hid).get n=if jan hid n=true then none else h.get n:=by
 rw[Hp.get_eq,Hp.get_eq,k.hid];rfl
theorem jv4 {cs:List SV} {ty:TypeId} {f:Nat->Hp->Option β} (k:Ok h):nw h cs ty f=f h.next (h.push (.arr cs ty)):=by
 cases h with
 | mk n t lo hid =>
  obtain rfl:hid=[]:=k.hid
  rfl
def rdB (x:Option AB) (off n:Nat):Option (List SV):=ob x (fun x=>AB.casesOn (motive:=fun _=>Option (List SV)) x (fun cs _=>jb2 n (jb8 off cs)) (fun _ _=>none))
theorem jfx {cs:List SV} {ty:TypeId} {off n:Nat}:rdB (some (.arr cs ty)) off n=jb2 n (jb8 off cs):=rfl
def wrB (h:Hp) (b:Nat) (x:Option AB) (off:Nat) (xs:List SV):Option Hp:=ob x (fun x=>AB.casesOn (motive:=fun _=>Option Hp) x (fun cs ty=>ob (jbp off xs cs) (fun cs'=>some (h.put b (some (.arr cs' ty))))) (fun _ _=>none))
theorem qgu {b off:Nat} (k:Ok h):wr h b off xs=wrB h b (h.get b) off xs:=by
 show oif (Nat.ble h.lo b) _ none=_
 rw[k.lo];rfl
theorem jo8 {b:Nat} {cs:List SV} {ty:TypeId} {off:Nat}:wrB h b (some (.arr cs ty)) off xs=ob (jbp off xs cs) (fun cs'=>some (h.put b (some (.arr cs' ty)))):=rfl
def jmu (h:Hp) (n:Nat) (agg:Bool) (v:AV):Option AV:=jet v (fun b off=>ob (rd h b off n) (fun cs=>jfz agg cs)) (fun cs=>ob (jb2 n cs) (fun cs=>jfz agg cs))
theorem qgv {α γ:Type} {x:Option α} {f:α->Option β} {g:β->Option γ}:ob (ob x f) g=ob x (fun a=>ob (f a) g):=by cases x<;>rfl
theorem j0m {n:Nat} {x:Od}:jd8 st fr h (.load n agg x)=ob (ev st fr x) (fun v=>ob (jmu h n agg v) (fun v=>ok v h)):=by
 show ob (ev st fr x) (fun v=>jet v (fun b off=>ob (rd h b off n) (fun cs=>ob (jfz agg cs) (fun v=>ok v h))) (fun cs=>ob (jb2 n cs) (fun cs=>ob (jfz agg cs) (fun v=>ok v h))))=_
 congr 1
 funext v
 cases v with
 | s v=>cases v<;>first | rfl | (show ob _ _=ob (ob _ _) _;rw[qgv])
 | _=>rfl
def j51 (h:Hp) (n:Nat) (p v:AV):R:=jqv p (fun b off=>cel v (fun cs=>oif (Nat.beq (jdg cs) n) (ob (wr h b off cs) (fun h=>ok .undef h)) none))
theorem qa7 {b:Nat} {v:SV} (k:Ok h):j51 h 1 (.s (.ptr b o)) (.s v)=ob (wrB h b (h.get b) o [v]) (fun h=>ok .undef h):=by
 show ob (wr h b o [v]) _=_
 rw[qgu k]
theorem j3a {n b:Nat} {cs:List SV} (k:Ok h) (hn:cs.length=n):j51 h n (.s (.ptr b o)) (.agg cs)=ob (wrB h b (h.get b) o cs) (fun h=>ok .undef h):=by
 show oif (Nat.beq (jdg cs) n) (ob (wr h b o cs) _) none=_
 rw[qgu k,jbm,hn,f1z];rfl
theorem qgw {e:TypeId} (k:Ok h):jd8 st fr h (.new e z)=some (.s (.ptr h.next 0),h.push (.arr z e)):=by
 show nw h z e (fun n h=>ok (.s (.ptr n 0)) h)=_
 rw[jv4 k];rfl
theorem qgx {e:TypeId} {x:Od} (k:Ok h):jd8 st fr h (.box e x)=ob (ev st fr x) (fun v=>cel v (fun cs=>some (.s (.ptr h.next 0),h.push (.arr cs e)))):=by
 show ob (ev st fr x) (fun v=>cel v (fun cs=>nw h cs e (fun n h=>ok (.s (.ptr n 0)) h)))=_
 congr 1;funext v;congr 1;funext cs;rw[jv4 k];rfl
theorem j3b {e:TypeId} {size:Nat} {len:Nat} {ps:List (Nat×Nat×Od)} (k:Ok h):jd8 st fr h (.bslice e size z len ps)=ob (fill st fr ps z) (fun cs=>some (.s (.slice h.next 0 len len true size),h.push (.arr cs e))):=by
 show ob (fill st fr ps z) (fun cs=>nw h cs e (fun n h=>ok (.s (.slice n 0 len len true size)) h))=_
 congr 1;funext cs;rw[jv4 k];rfl
def qnz (h:Hp) (e:TypeId) (size bytes:Nat) (z:List SV) (l c:AV):R:=qcp l (fun m=>qcp c (fun k=>oif (Nat.ble m k) (oif (Nat.ble (Nat.mul bytes k) 1000000000) (oif (Nat.ble k 1000000000) (nw h (rep z k) e (fun b h=>ok (.s (.slice b 0 m k true size)) h)) none) none) none))
theorem jyf {e:TypeId} {size:Nat} {m:Nat} (k:Ok h) (h1:bytes*m<=1000000000) (h2:m<=1000000000):qnz h e size bytes z (vi m) (vi m)=some (.s (.slice h.next 0 m m true size),h.push (.arr (rep z m) e)):=by
 show oif (Nat.ble m m) (oif (Nat.ble (Nat.mul bytes m) 1000000000) (oif (Nat.ble m 1000000000) (nw h (rep z m) e _) none) none) none=_
 rw[jv4 k,jh0 (f0e m),jh0 h2,show Nat.ble (Nat.mul bytes m) 1000000000=true from jh0 h1];rfl
def ju7 (size:Nat) (v w:AV):Option AV:=jch v none (fun b off len _ _ _=>jky w len (fun m=>some (.s (.ptr b (Nat.add off (Nat.mul m size))))))
 (fun rows=>jky w (jdg rows) (fun m=>ob (jd9 rows m) (fun row=>oif (Nat.beq (jdg row) size) (some (.s (.cp row))) none))) none
theorem jhf {m n:Nat} {f:Nat->Option β} (hm:m<n):jky (vi (m:Int)) n f=f m:=by
 show oif (Nat.ble (Nat.succ m) n) (f m) none=_
 rw[jh0 (show Nat.succ m<=n from hm)];rfl
theorem jbc {size b off len mc sz m:Nat} {ex:Bool} (hm:m<len):ju7 size (.s (.slice b off len mc ex sz)) (vi (m:Int))=some (.s (.ptr b (off+m*size))):=jhf (f:=fun m=>some (AV.s (.ptr b (Nat.add off (Nat.mul m size))))) hm
theorem jcc {size b off len mc sz:Nat} {ex:Bool} (hm:0<len):ju7 size (.s (.slice b off len mc ex sz)) (vi 0)=some (.s (.ptr b off)):=by
 have:=jhf (f:=fun m=>some (AV.s (.ptr b (Nat.add off (Nat.mul m size))))) hm
 refine this.trans ?_
 show some (AV.s (.ptr b (off+0*size)))=_
 rw[f12,f1i]
theorem j0n {size m:Nat} (hr:rows[m]?=some row) (hl:row.length=size):ju7 size (.s (.lst rows)) (vi (m:Int))=some (.s (.cp row)):=by
 have hm:m<rows.length:=by
  rcases f0k m rows.length with h | h
  .exact h
  .rw [f0r h] at hr;cases hr
 have:=jhf (f:=fun m=>ob (jd9 rows m) (fun row=>oif (Nat.beq (jdg row) size) (some (AV.s (.cp row))) none)) (show m<jdg rows by rw[jbm];exact hm)
 refine this.trans ?_
 rw[jcj,hr]
 show oif (Nat.beq (jdg row) size) _ none=_
 rw[jbm,hl,f1z];rfl
def qc0 (n size:Nat) (v w:AV):Option AV:=jet v (fun b off=>jky w n (fun m=>some (.s (.ptr b (Nat.add off (Nat.mul m size)))))) (fun cs=>jky w n (fun m=>some (.s (.cp (jb8 (Nat.mul m size) cs)))))
theorem jcn {n size b off m:Nat} (hm:m<n):qc0 n size (.s (.ptr b off)) (vi (m:Int))=some (.s (.ptr b (off+m*size))):=jhf (f:=fun m=>some (AV.s (.ptr b (Nat.add off (Nat.mul m size))))) hm
theorem je2 {n size m:Nat} {cs:List SV} (hm:m<n):qc0 n size (.s (.cp cs)) (vi (m:Int))=some (.s (.cp (jb8 (m*size) cs))):=jhf (f:=fun m=>some (AV.s (.cp (jb8 (Nat.mul m size) cs)))) hm
def quf (h:Hp) (e:TypeId) (size bytes b n m:Nat) (x:Option AB) (new:List SV):R :=
 jkz bytes (Nat.add n m) (ob x (fun x=>AB.casesOn (motive:=fun _=>R) x (fun cs ty =>
  ob (jb2 (Nat.mul n size) (jb8 0 cs)) (fun old=>(oif (Nat.ble h.lo b) (oif (Nat.beq ty e) (nw (h.put b none) (jgi old new) e (fun k h=>ok (.s (.slice k 0 (Nat.add n m) (Nat.add n m) false size)) h)) none) none))) (fun _ _=>none)))
def ji4 (h:Hp) (e:TypeId) (size bytes:Nat) (v w:AV):R:=jch w (j9y v (ok v h)) (fun b' off' m _ _ _=>ob (rd h b' off' (Nat.mul m size)) (fun new=>jxi h e size bytes m v new))
 (fun rows=>ob (jmp size rows) (fun new=>jxi h e size bytes (jdg rows) v new)) (j9y v (ok v h))
theorem jqo {e:TypeId} {size m:Nat}:ji4 h e size bytes (.s .nilSlice) (.s (.slice b' o' m mc' ex' sz'))=ob (rdB (h.get b') o' (m*size)) (fun new=>Nat.casesOn (motive:=fun _=>R) m (some (.s .nilSlice,h)) (fun _=>jkz bytes m (nw h new e (fun k h=>ok (.s (.slice k 0 m m false size)) h)))):=rfl
theorem jm5 {n:Nat} {x:R} (h1:n*bytes<=1000000000) (h2:n<=1000000000):jkz bytes n x=x:=by
 show oif (Nat.ble (Nat.mul n bytes) 1000000000) (oif (Nat.ble n 1000000000) x none) none=_
 rw[show Nat.ble (Nat.mul n bytes) 1000000000=true from jh0 h1,jh0 h2];rfl
theorem jmv {e:TypeId} {size b n m:Nat} (hm:1<=m):ji4 h e size bytes (.s (.slice b 0 n n false size)) (.s (.slice b' o' m mc' ex' sz'))=ob (rdB (h.get b') o' (m*size)) (fun new=>quf h e size bytes b n m (h.get b) new):=by
 show ob (rdB (h.get b') o' (m*size)) (fun new=>oif (Nat.beq size size) (oif (Nat.ble (Nat.add n m) n) _ (jkz bytes (Nat.add n m) (jno h e size b 0 n m false new))) none)=_
 congr 1
 funext new
 have e1:Nat.ble (Nat.add n m) n=false:=by
  cases e:Nat.ble (Nat.add n m) n with
  | false=>rfl
  | true=>rw[jry] at e;have:n+m<=n:=e;omega
 rw[f1z]
 show oif (Nat.ble (Nat.add n m) n) _ _=_
 rw[e1]
 rfl
theorem qgy {e:TypeId} {size b n m:Nat} {cs new:List SV} (k:Ok h) (hc:cs.length=n*size) (h1:(n+m)*bytes<=1000000000) (h2:n+m<=1000000000) :
 quf h e size bytes b n m (some (.arr cs e)) new=some (.s (.slice h.next 0 (n+m) (n+m) false size),(h.put b none).push (.arr (cs++new) e)):=by
 show jkz bytes (n+m) (ob (jb2 (n*size) cs) (fun old=>oif (Nat.ble h.lo b) (oif (Nat.beq e e) (nw (h.put b none) (jgi old new) e _) none) none))=_
 rw[jm5 h1 h2,(jbf _).2 ⟨f2r hc.symm,rfl⟩,←hc,f2y]
 show oif (Nat.ble h.lo b) (oif (Nat.beq e e) (nw (h.put b none) (jgi cs new) e _) none) none=_
 rw[k.lo,f1z,jv4 (jap k),jc9,Hp.next_put]
 rfl
def qu1 (v:AV):Option (Bool×List SV):=AV.casesOn (motive:=fun _=>Option (Bool×List SV)) v (fun s=>some (false,[s])) (fun l=>some (true,l)) (fun _=>none) none none
theorem jly:jf1 fr h []=some []:=rfl
theorem je3 {r:IR} {l:List IR}:jf1 fr h (r::l)=ob (jmr fr h r) (fun v=>ob (jf1 fr h l) (fun x=>some (v::x))):=rfl
theorem jlz:jb6 (.mk fr h) []=some (.tup [],h):=rfl
theorem j3c {r:IR}:jb6 (.mk fr h) [r]=ob (jmr fr h r) (fun p=>ob (jfz p.1 p.2) (fun v=>some (v,h))):=by
 show ob (ob (jmr fr h r) (fun v=>ob (some []) (fun x=>some (v::x)))) (fun vs=>List.casesOn (motive:=fun _=>R) vs (ok (.tup []) h) (fun p r=>List.casesOn (motive:=fun _=>R) r (ob (jfz p.1 p.2) (fun v=>ok v h)) (fun _ _=>ok (.tup vs) h)))=_
 cases jmr fr h r<;>rfl
theorem j3d {r r':IR} {l:List IR}:jb6 (.mk fr h) (r::r'::l)=ob (jf1 fr h (r::r'::l)) (fun vs=>some (.tup vs,h)):=by
 show ob (jf1 fr h (r::r'::l)) (fun vs=>List.casesOn (motive:=fun _=>R) vs (ok (.tup []) h) (fun p r=>List.casesOn (motive:=fun _=>R) r (ob (jfz p.1 p.2) (fun v=>ok v h)) (fun _ _=>ok (.tup vs) h)))=_
 rw[je3,je3]
 cases jmr fr h r with
 | none=>rfl
 | some a=>cases jmr fr h r' with
  | none=>rfl
  | some b=>cases jf1 fr h l<;>rfl
theorem qgz {v:AV}:ok v h=some (v,h):=rfl
theorem jyg {es:List Ent} {hid:List (Nat×Nat)}:sel es [] hid=some hid:=rfl
theorem jsz {es:List Ent} {hid:List (Nat×Nat)}:sel es (j::js) hid=ob (jd9 es j) (fun e=>ob (sel es js hid) (fun l=>Ent.casesOn (motive:=fun _=>Option (List (Nat×Nat))) e (fun iv _=>some (iv++l)))):=by
 show ob (jd9 es j) (fun e=>ob (sel es js hid) (fun l=>Ent.casesOn (motive:=fun _=>Option (List (Nat×Nat))) e (fun iv _=>some (jgi iv l))))=_
 simp only[jc9]
def fpV:AV->List Nat
 | .s (.ptr b _)=>[b]
 | _=>[]
theorem jyh {b:Nat}:fpV (.s (.ptr b o))=[b]:=rfl
theorem j52 {cs:List SV}:fpV (.s (.cp cs))=[]:=rfl
theorem jv5 {es:List Ent} {dst:Option Nat} {n:Nat} {x:Od} {l:List (IOper×Option (List Nat))}:WD F ((.mk dst (.a (.load n agg x)) none,some js)::l) st es fr h Q=obP (sel es js h.hid) (fun hid'=>obP (ev st fr x) (fun p=>obP (jmu (h.hide h.next hid') n agg p) (fun v=>WD F l (v::st) (.mk [] (some (fpV p))::es) (jcp fr dst v) h Q))):=by
 cases h with
 | mk k t lo hid =>
 rw[j29 (x:=ob (sel es js hid) (fun hid'=>ob (ev st fr x) (fun p=>ob (jmu (.mk k t k hid') n agg p) (fun v=>some (DR.mk v (.mk k t lo hid) (.mk [] (some (fpV p)))))))) (fun cl=>?_)]
 .refine propext ⟨fun⟨p,h1,h2⟩=>?_,fun⟨hid',h0,q,h1,v,h2,h3⟩=>⟨.mk v (.mk k t lo hid) (.mk [] (some (fpV q))),jaa.2 ⟨hid',h0,jaa.2 ⟨q,h1,jaa.2 ⟨v,h2,rfl⟩⟩⟩,h3⟩⟩
  obtain⟨hid',h3,h4⟩:=jaa.1 h1
  obtain⟨q,h5,h6⟩:=jaa.1 h4
  obtain⟨v,h7,h8⟩:=jaa.1 h6
  cases h8
  exact⟨hid',h3,q,h5,v,h7,h2⟩
 .show jmb cl st fr es (.mk k t lo hid) (.a (.load n agg x)) js=_
  show ob (sel es js hid) (fun hid'=>Cls.casesOn (motive:=fun _=>Option DR) (jva (ob (ev st fr x) (fun v=>jet v (fun b _=>some (Cls.load b)) (fun _=>some .quiet))) (fun c=>c))
   (jmq cl st fr k t lo k hid hid' (.a (.load n agg x)) (fun n'=>.mk [(k,n')] (some [])))
   (fun x'=>jmq cl st fr k t lo k hid hid' (.a (.load n agg x)) (fun _=>.mk [] (some [x'])))
   (fun b=>oif (jjb es js b) (oif (Nat.ble lo b) (ob (Hp.get (.mk k t lo hid') b) (fun _=>jmq cl st fr k t lo lo hid hid' (.a (.load n agg x)) (fun n'=>.mk [(b,Nat.succ b),(k,n')] none))) none) none)
   (jmq cl st fr k t lo k hid hid' (.a (.load n agg x)) (fun _=>.mk [] (some [])))
   (jmq cl st fr k t lo k hid hid' (.a (.load n agg x)) (fun n'=>.mk [(k,n')] none)))=_
  congr 1
  funext hid'
  have key:∀ e:Nat->Ent,jmq cl st fr k t lo k hid hid' (.a (.load n agg x)) e=ob (ev st fr x) (fun p=>ob (jmu (.mk k t k hid') n agg p) (fun v=>some (DR.mk v (.mk k t lo hid) (e k)))):=fun e=>by
   show ob (aop cl st fr (.mk k t k hid') (.load n agg x)) _=_
   rw[jiq (show AO.calls (.load n agg x)=false from rfl),j0m]
   cases ev st fr x with
   | none=>rfl
   | some p =>
    show ob (ob (jmu (.mk k t k hid') n agg p) _) _=ob (jmu (.mk k t k hid') n agg p) _
    cases jmu (.mk k t k hid') n agg p<;>rfl
  have k1:=key (fun n'=>.mk [(k,n')] none)
  have k3:=key (fun _=>.mk [] (some []))
  have k2:=fun b=>key (fun _=>.mk [] (some [b]))
  cases hx:ev st fr x with
  | none =>
   rw[hx] at k1
   exact k1
  | some p =>
   rw[hx] at k1 k3
   simp only[hx] at k2
   cases p with
   | s p =>
    cases p with
    | ptr b o=>exact k2 b
    | cp cs=>exact k3
    | _=>exact k1
   | _=>exact k1
theorem jqp {es:List Ent} {dst:Option Nat} {e:TypeId} {size:Nat} {len:Nat} {ps:List (Nat×Nat×Od)} {l:List (IOper×Option (List Nat))}:WD F ((.mk dst (.a (.bslice e size z len ps)) none,some js)::l) st es fr h Q=obP (sel es js h.hid) (fun hid'=>obP (fill st fr ps z) (fun cs=>jan hid' h.next=false/\WD F l (.s (.slice h.next 0 len len true size)::st) (.mk [(h.next,h.next+1)] (some [])::es) (jcp fr dst (.s (.slice h.next 0 len len true size))) (h.push (.arr cs e)) Q)):=by
 cases h with
 | mk k t lo hid =>
 rw[j29 (x:=ob (sel es js hid) (fun hid'=>ob (fill st fr ps z) (fun cs=>oif (jan hid' k) none (some (DR.mk (.s (.slice k 0 len len true size)) ((Hp.mk k t lo hid).push (.arr cs e)) (.mk [(k,k+1)] (some []))))))) (fun cl=>?_)]
 .refine propext ⟨fun⟨p,h1,h2⟩=>?_,fun⟨hid',h0,cs,h1,h2,h3⟩=>⟨DR.mk (.s (.slice k 0 len len true size)) ((Hp.mk k t lo hid).push (.arr cs e)) (.mk [(k,k+1)] (some [])),jaa.2 ⟨hid',h0,jaa.2 ⟨cs,h1,?_⟩⟩,h3⟩⟩
  .obtain ⟨hid',h3,h4⟩:=jaa.1 h1
   obtain⟨cs,h5,h6⟩:=jaa.1 h4
   rw[jau] at h6
   split at h6
   .cases h6
   .rename_i h7
    cases h6
    exact⟨hid',h3,cs,h5,Bool.eq_false_iff.2 h7,h2⟩
  .have h2':jan hid' k=false:=h2
   rw[h2'];rfl
 .show jmb cl st fr es (.mk k t lo hid) (.a (.bslice e size z len ps)) js=_
  show ob (sel es js hid) (fun hid'=>ob (ob (fill st fr ps z) (fun cs=>oif (jan hid' k) none (ok (.s (.slice k 0 len len true size)) (Hp.mk (Nat.succ k) (t.put (Nat.succ k) k (some (.arr cs e))) k hid')))) (fun p=>Hp.casesOn (motive:=fun _=>Option DR) p.2 (fun n' t' _ _=>some (.mk p.1 (.mk n' t' lo hid) (.mk [(k,n')] (some []))))))=_
  congr 1
  funext hid'
  cases fill st fr ps z with
  | none=>rfl
  | some cs =>
   show ob (oif (jan hid' k) none _) _=oif (jan hid' k) none _
   cases jan hid' k<;>rfl
end
section
variable {F:Fns} {s:St} {st fr:List AV} {h h':Hp} {Q:Ex->St->Prop} {l:List IOper} {dst:Option Nat} {v w:AV} {m:List (IOper×Option (List Nat))} {es:List Ent}
def zpO (F:Fns) (x:Option AV) (dst:Option Nat) (l:List IOper) (st fr:List AV) (h:Hp) (Q:Ex->St->Prop):Prop:=obP x (fun v=>WO F l (v::st) (jcp fr dst v) h Q)
theorem js0:zpO F (some v) dst l st fr h Q=WO F l (v::st) (jcp fr dst v) h Q:=jb4
def zmO (F:Fns) (x:R) (dst:Option Nat) (l:List IOper) (st fr:List AV) (Q:Ex->St->Prop):Prop:=obP x (fun p=>WO F l (p.1::st) (jcp fr dst p.1) p.2 Q)
theorem js1:zmO F (some (v,h)) dst l st fr Q=WO F l (v::st) (jcp fr dst v) h Q:=jb4
def qg0 (F:Fns) (dst:Option Nat) (l:List IOper) (st fr:List AV) (Q:Ex->St->Prop) (v:AV) (h:Hp):Prop:=WO F l (v::st) (jcp fr dst v) h Q
theorem js2:qg0 F dst l st fr Q v h=WO F l (v::st) (jcp fr dst v) h Q:=rfl
def zkO (F:Fns) (x:Option (List AV)) (f:FuncId) (dst:Option Nat) (l:List IOper) (st fr:List AV) (h:Hp) (Q:Ex->St->Prop):Prop:=obP x (fun vs=>WC F f vs h (qg0 F dst l st fr Q))
theorem js3 {f:FuncId}:zkO F (some vs) f dst l st fr h Q=WC F f vs h (qg0 F dst l st fr Q):=jb4
def zgO (F:Fns) (x:Option AV) (t:Bool) (dst:Option Nat) (op:IOp) (l:List IOper) (st fr:List AV) (h:Hp) (Q:Ex->St->Prop):Prop:=gP x t (WO F (.mk dst op none::l) st fr h Q) (WO F l (.undef::st) (jcp fr dst .undef) h Q)
theorem js4 {b:Bool} {op:IOp}:zgO F (some (.s (.bool b))) t dst op l st fr h Q=if b=t then WO F (.mk dst op none::l) st fr h Q else WO F l (.undef::st) (jcp fr dst .undef) h Q:=j5l
theorem jo9 {op:IOp}:zgO F (some .undef) t dst op l st fr h Q=WO F l (.undef::st) (jcp fr dst .undef) h Q:=j0k
def zcO (F:Fns) (x:Option AV) (a b:IC) (fr:List AV) (h:Hp) (Q:Ex->St->Prop):Prop:=qro x (W F a (.mk fr h) Q) (W F b (.mk fr h) Q)
theorem js5 {b:Bool} {x y:IC}:zcO F (some (.s (.bool b))) x y fr h Q=if b=true then W F x (.mk fr h) Q else W F y (.mk fr h) Q:=j5g
theorem jyi {c:Od} {x y:IC}:W F (.cond c x y) (.mk fr h) Q=zcO F (ev [] fr c) x y fr h Q:=qnx
theorem jyj {o:PO}:WO F (.mk dst (.p o) none::l) st fr h Q=zpO F (pop st fr o) dst l st fr h Q:=qgl
theorem jyk {f:FuncId} {as:List Od}:WO F (.mk dst (.a (.call f as)) none::l) st fr h Q=zkO F (evs st fr as) f dst l st fr h Q:=qgm
theorem js6 {op:IOp}:WO F (.mk dst op (some (i,t))::l) st fr h Q=zgO F (jd9 st i) t dst op l st fr h Q:=qa0
theorem js7 {x:Od} {as:List Od} {f:FuncId} {caps:List (Nat×Nat)} (hx:ev st fr x=some (.s (.func f caps))):WO F (.mk dst (.a (.callv x as)) none::l) st fr h Q=zkO F (ob (evs st fr as) (fun vs=>some (vs++jeu caps))) f dst l st fr h Q:=by
 rw[qaz]
 refine propext ⟨fun⟨g,cs,h1,vs,h2,h3⟩=>?_,fun⟨vs,h1,h2⟩=>?_⟩
 .rw [hx] at h1;cases h1
  exact⟨_,jaa.2 ⟨vs,h2,rfl⟩,h3⟩
 .obtain ⟨us,h3,h4⟩:=jaa.1 h1
  cases h4
  exact⟨f,caps,hx,us,h3,h2⟩
def zpD (F:Fns) (x:Option AV) (e:Ent) (dst:Option Nat) (m:List (IOper×Option (List Nat))) (st:List AV) (es:List Ent) (fr:List AV) (h:Hp) (Q:Ex->St->Prop):Prop:=obP x (fun v=>WD F m (v::st) (e::es) (jcp fr dst v) h Q)
theorem js8 {e:Ent}:zpD F (some v) e dst m st es fr h Q=WD F m (v::st) (e::es) (jcp fr dst v) h Q:=jb4
def zmD (F:Fns) (x:R) (dst:Option Nat) (m:List (IOper×Option (List Nat))) (st:List AV) (es:List Ent) (fr:List AV) (Q:Ex->St->Prop):Prop:=obP x (fun p=>WD F m (p.1::st) (.mk [] (some [])::es) (jcp fr dst p.1) p.2 Q)
theorem js9:zmD F (some (v,h)) dst m st es fr Q=WD F m (v::st) (.mk [] (some [])::es) (jcp fr dst v) h Q:=jb4
def qg1 (F:Fns) (dst:Option Nat) (m:List (IOper×Option (List Nat))) (st:List AV) (es:List Ent) (fr:List AV) (Q:Ex->St->Prop) (v:AV) (h:Hp):Prop:=WD F m (v::st) (.mk [] (some [])::es) (jcp fr dst v) h Q
theorem jta:qg1 F dst m st es fr Q v h=WD F m (v::st) (.mk [] (some [])::es) (jcp fr dst v) h Q:=rfl
def zkD (F:Fns) (x:Option (List AV)) (f:FuncId) (dst:Option Nat) (m:List (IOper×Option (List Nat))) (st:List AV) (es:List Ent) (fr:List AV) (h:Hp) (Q:Ex->St->Prop):Prop:=obP x (fun vs=>WC F f vs h (qg1 F dst m st es fr Q))
theorem jtb {f:FuncId}:zkD F (some vs) f dst m st es fr h Q=WC F f vs h (qg1 F dst m st es fr Q):=jb4
def zgD (F:Fns) (x:Option AV) (t:Bool) (dst:Option Nat) (op:IOp) (o:Option (List Nat)) (m:List (IOper×Option (List Nat))) (st:List AV) (es:List Ent) (fr:List AV) (h:Hp) (Q:Ex->St->Prop):Prop:=gP x t (WD F ((.mk dst op none,o)::m) st es fr h Q) (WD F m (.undef::st) (.mk [] (some [])::es) (jcp fr dst .undef) h Q)
theorem jtc {b:Bool} {op:IOp} {o:Option (List Nat)}:zgD F (some (.s (.bool b))) t dst op o m st es fr h Q=if b=t then WD F ((.mk dst op none,o)::m) st es fr h Q else WD F m (.undef::st) (.mk [] (some [])::es) (jcp fr dst .undef) h Q:=j5l
theorem jpa {op:IOp} {o:Option (List Nat)}:zgD F (some .undef) t dst op o m st es fr h Q=WD F m (.undef::st) (.mk [] (some [])::es) (jcp fr dst .undef) h Q:=j0k
theorem jyl {o:PO}:WD F ((.mk dst (.p o) none,none)::m) st es fr h Q=zpD F (pop st fr o) (.mk [] (some [])) dst m st es fr h Q:=qgn
theorem jym {f:FuncId} {as:List Od}:WD F ((.mk dst (.a (.call f as)) none,none)::m) st es fr h Q=zkD F (evs st fr as) f dst m st es fr h Q:=qgo
theorem jtd {op:IOp} {o:Option (List Nat)}:WD F ((.mk dst op (some (i,t)),o)::m) st es fr h Q=zgD F (jd9 st i) t dst op o m st es fr h Q:=qa1
def qug (F:Fns) (x:Option (List (Nat×Nat))) (o:Option AV) (dst:Option Nat) (m:List (IOper×Option (List Nat))) (st:List AV) (es:List Ent) (fr:List AV) (h:Hp) (Q:Ex->St->Prop):Prop:=obP x (fun _=>zpD F o (.mk [(h.next,h.next)] (some [])) dst m st es fr h Q)
theorem jpb {x:List (Nat×Nat)} {o:Option AV}:qug F (some x) o dst m st es fr h Q=zpD F o (.mk [(h.next,h.next)] (some [])) dst m st es fr h Q:=jb4
theorem jhg {o:PO}:WD F ((.mk dst (.p o) none,some js)::m) st es fr h Q=qug F (sel es js h.hid) (pop st fr o) dst m st es fr h Q:=jv2
def qru (F:Fns) (x:Option (List (Nat×Nat))) (n:Nat) (agg:Bool) (p:Option AV) (dst:Option Nat) (m:List (IOper×Option (List Nat))) (st:List AV) (es:List Ent) (fr:List AV) (h:Hp) (Q:Ex->St->Prop):Prop:=obP x (fun hid'=>obP p (fun p=>zpD F (jmu (h.hide h.next hid') n agg p) (.mk [] (some (fpV p))) dst m st es fr h Q))
theorem jpc {x:List (Nat×Nat)} {n:Nat}:qru F (some x) n agg (some w) dst m st es fr h Q=zpD F (jmu (h.hide h.next x) n agg w) (.mk [] (some (fpV w))) dst m st es fr h Q:=by
 unfold qru;rw[jb4,jb4]
theorem jhh {n:Nat} {x:Od}:WD F ((.mk dst (.a (.load n agg x)) none,some js)::m) st es fr h Q=qru F (sel es js h.hid) n agg (ev st fr x) dst m st es fr h Q:=jv5
def qqt (F:Fns) (x:Option (List (Nat×Nat))) (cs:Option (List SV)) (e:TypeId) (size len:Nat) (dst:Option Nat) (m:List (IOper×Option (List Nat))) (st:List AV) (es:List Ent) (fr:List AV) (h:Hp) (Q:Ex->St->Prop):Prop:=obP x (fun hid'=>obP cs (fun cs=>jan hid' h.next=false/\WD F m (.s (.slice h.next 0 len len true size)::st) (.mk [(h.next,h.next+1)] (some [])::es) (jcp fr dst (.s (.slice h.next 0 len len true size))) (h.push (.arr cs e)) Q))
theorem jj1 {x:List (Nat×Nat)} {cs:List SV} {e:TypeId} {size len:Nat} (hx:jan x h.next=false):qqt F (some x) (some cs) e size len dst m st es fr h Q=WD F m (.s (.slice h.next 0 len len true size)::st) (.mk [(h.next,h.next+1)] (some [])::es) (jcp fr dst (.s (.slice h.next 0 len len true size))) (h.push (.arr cs e)) Q:=by
 unfold qqt;rw[jb4,jb4];exact propext ⟨fun h=>h.2,fun h=>⟨hx,h⟩⟩
theorem jyn {cs:List SV} {e:TypeId} {size len:Nat}:qqt F (some []) (some cs) e size len dst m st es fr h Q=WD F m (.s (.slice h.next 0 len len true size)::st) (.mk [(h.next,h.next+1)] (some [])::es) (jcp fr dst (.s (.slice h.next 0 len len true size))) (h.push (.arr cs e)) Q:=jj1 rfl
theorem jfy {e:TypeId} {size:Nat} {len:Nat} {ps:List (Nat×Nat×Od)}:WD F ((.mk dst (.a (.bslice e size z len ps)) none,some js)::m) st es fr h Q=qqt F (sel es js h.hid) (fill st fr ps z) e size len dst m st es fr h Q:=jqp
def qu2 (F:Fns) (x:Option (List (Nat×Nat))) (u:AV) (dst:Option Nat) (m:List (IOper×Option (List Nat))) (st:List AV) (es:List Ent) (fr:List AV) (h:Hp) (Q:Ex->St->Prop):Prop:=obP x (fun _=>WD F m (u::st) (.mk [(h.next,h.next)] none::es) (jcp fr dst u) h Q)
theorem jpd {x:List (Nat×Nat)} {u:AV}:qu2 F (some x) u dst m st es fr h Q=WD F m (u::st) (.mk [(h.next,h.next)] none::es) (jcp fr dst u) h Q:=jb4
theorem j53 {e:TypeId}:WO F (.mk dst (.a (.new e z)) none::l) st fr h Q=zmO F (jd8 st fr h (.new e z)) dst l st fr Q:=jic rfl
theorem j54 {e:TypeId}:WD F ((.mk dst (.a (.new e z)) none,none)::m) st es fr h Q=zmD F (jd8 st fr h (.new e z)) dst m st es fr Q:=jjx rfl
theorem j55 {e:TypeId} {x:Od}:WO F (.mk dst (.a (.box e x)) none::l) st fr h Q=zmO F (jd8 st fr h (.box e x)) dst l st fr Q:=jic rfl
theorem j56 {e:TypeId} {x:Od}:WD F ((.mk dst (.a (.box e x)) none,none)::m) st es fr h Q=zmD F (jd8 st fr h (.box e x)) dst m st es fr Q:=jjx rfl
theorem jpe {e:TypeId} {size:Nat} {len:Nat} {ps:List (Nat×Nat×Od)}:WO F (.mk dst (.a (.bslice e size z len ps)) none::l) st fr h Q=zmO F (jd8 st fr h (.bslice e size z len ps)) dst l st fr Q:=jic rfl
theorem jpf {e:TypeId} {size:Nat} {len:Nat} {ps:List (Nat×Nat×Od)}:WD F ((.mk dst (.a (.bslice e size z len ps)) none,none)::m) st es fr h Q=zmD F (jd8 st fr h (.bslice e size z len ps)) dst m st es fr Q:=jjx rfl
theorem jl0 {e:TypeId} {size:Nat} {x y:Od}:WO F (.mk dst (.a (.mkslice e size bytes z x y)) none::l) st fr h Q=zmO F (jd8 st fr h (.mkslice e size bytes z x y)) dst l st fr Q:=jic rfl
theorem jl1 {e:TypeId} {size:Nat} {x y:Od}:WD F ((.mk dst (.a (.mkslice e size bytes z x y)) none,none)::m) st es fr h Q=zmD F (jd8 st fr h (.mkslice e size bytes z x y)) dst m st es fr Q:=jjx rfl
theorem jyo {n:Nat} {x:Od}:WO F (.mk dst (.a (.load n agg x)) none::l) st fr h Q=zmO F (jd8 st fr h (.load n agg x)) dst l st fr Q:=jic rfl
theorem jyp {n:Nat} {x:Od}:WD F ((.mk dst (.a (.load n agg x)) none,none)::m) st es fr h Q=zmD F (jd8 st fr h (.load n agg x)) dst m st es fr Q:=jjx rfl
theorem jte {n:Nat} {x y:Od}:WO F (.mk dst (.a (.store n x y)) none::l) st fr h Q=zmO F (jd8 st fr h (.store n x y)) dst l st fr Q:=jic rfl
theorem jtf {n:Nat} {x y:Od}:WD F ((.mk dst (.a (.store n x y)) none,none)::m) st es fr h Q=zmD F (jd8 st fr h (.store n x y)) dst m st es fr Q:=jjx rfl
theorem j57 {e:TypeId} {size:Nat} {x y:Od}:WO F (.mk dst (.a (.app e size bytes x y)) none::l) st fr h Q=zmO F (jd8 st fr h (.app e size bytes x y)) dst l st fr Q:=jic rfl
theorem j58 {e:TypeId} {size:Nat} {x y:Od}:WD F ((.mk dst (.a (.app e size bytes x y)) none,none)::m) st es fr h Q=zmD F (jd8 st fr h (.app e size bytes x y)) dst m st es fr Q:=jjx rfl
theorem jyq {size:Nat} {x y:Od}:WO F (.mk dst (.a (.copy size x y)) none::l) st fr h Q=zmO F (jd8 st fr h (.copy size x y)) dst l st fr Q:=jic rfl
theorem jyr {size:Nat} {x y:Od}:WD F ((.mk dst (.a (.copy size x y)) none,none)::m) st es fr h Q=zmD F (jd8 st fr h (.copy size x y)) dst m st es fr Q:=jjx rfl
theorem jpg {n size:Nat} {x:Od}:WO F (.mk dst (.a (.slicea n size x)) none::l) st fr h Q=zmO F (jd8 st fr h (.slicea n size x)) dst l st fr Q:=jic rfl
theorem jph {n size:Nat} {x:Od}:WD F ((.mk dst (.a (.slicea n size x)) none,none)::m) st es fr h Q=zmD F (jd8 st fr h (.slicea n size x)) dst m st es fr Q:=jjx rfl
def quh (o:BO) (x y:Option AV):Option AV:=ob x (fun a=>ob y (fun b=>svc none a (fun a=>svc none b (fun b=>jc8 o a b))))
theorem j59 {o:BO} {x y:Od}:pop st fr (.bin o x y)=quh o (ev st fr x) (ev st fr y):=rfl
theorem jpi {o:BO} {a b:SV}:quh o (some (.s a)) (some (.s b))=jc8 o a b:=rfl
def qrv (off:Nat) (x:Option AV):Option AV:=ob x (fun v=>jet v (fun b o=>some (.s (.ptr b (o+off)))) (fun cs=>some (.s (.cp (jb8 off cs)))))
theorem j6a {off:Nat} {x:Od}:pop st fr (.fld off x)=qrv off (ev st fr x):=rfl
theorem jtg {off b:Nat}:qrv off (some (.s (.ptr b o)))=some (.s (.ptr b (o+off))):=rfl
theorem jys {off:Nat} {cs:List SV}:qrv off (some (.s (.cp cs)))=some (.s (.cp (jb8 off cs))):=rfl
def qg2 (x:Option AV):Option AV:=ob x (fun v=>jet v (fun b o=>some (.s (.ptr b o))) (fun cs=>some (.s (.cp cs))))
theorem jyt {x:Od}:pop st fr (.nchk x)=qg2 (ev st fr x):=rfl
theorem jpj {b:Nat}:qg2 (some (.s (.ptr b o)))=some (.s (.ptr b o)):=rfl
theorem jth {cs:List SV}:qg2 (some (.s (.cp cs)))=some (.s (.cp cs)):=rfl
def qui (x:Option AV):Option AV:=ob x jri
theorem j6b {x:Od}:pop st fr (.len x)=qui (ev st fr x):=rfl
theorem jpk:qui (some v)=jri v:=rfl
def quj (size:Nat) (x y:Option AV):Option AV:=ob x (fun v=>ob y (fun w=>ju7 size v w))
theorem j6c {size:Nat} {x i:Od}:pop st fr (.ixs size x i)=quj size (ev st fr x) (ev st fr i):=rfl
theorem jpl {size:Nat}:quj size (some v) (some w)=ju7 size v w:=rfl
def quk (n size:Nat) (x y:Option AV):Option AV:=ob x (fun v=>ob y (fun w=>qc0 n size v w))
theorem j6d {n size:Nat} {x i:Od}:pop st fr (.ixa n size x i)=quk n size (ev st fr x) (ev st fr i):=rfl
theorem jpm {n size:Nat}:quk n size (some v) (some w)=qc0 n size v w:=rfl
def qn0 (x:Option AV) (a b:Od) (st fr:List AV):Option AV:=ob x (fun v=>jii v (fun t=>ev st fr (oif t a b)))
theorem jyu {c a b:Od}:pop st fr (.pick c a b)=qn0 (ev st fr c) a b st fr:=rfl
theorem jl2 {a b:Od}:qn0 (some (.s (.bool t))) a b st fr=if t=true then ev st fr a else ev st fr b:=by cases t<;>rfl
def qul (i:Nat) (x:Option AV):Option AV:=ob x (fun v=>AV.casesOn (motive:=fun _=>Option AV) v (fun _=>none) (fun _=>none) (fun l=>ob (jd9 l i) (fun p=>jfz p.1 p.2)) none none)
theorem j6e {x:Od}:pop st fr (.ext i x)=qul i (ev st fr x):=rfl
def mk1 (p:Option (Bool×List SV)):Option AV:=ob p (fun p=>jfz p.1 p.2)
theorem jti {a:Bool} {l:List SV}:mk1 (some (a,l))=jfz a l:=rfl
theorem jtj {l:List (Bool×List SV)}:qul i (some (.tup l))=mk1 (jd9 l i):=rfl
def ldR (h:Hp) (agg:Bool) (cs:Option (List SV)):R:=ob cs (fun cs=>ob (jfz agg cs) (fun v=>ok v h))
theorem qg3 {cs:List SV}:ldR h true (some cs)=some (.agg cs,h):=rfl
theorem qg4 {a:SV}:ldR h false (some [a])=some (.s a,h):=rfl
def qg5 (h:Hp) (n:Nat) (agg:Bool) (x:Option AV):R:=ob x (fun v=>ob (jmu h n agg v) (fun v=>ok v h))
theorem jyv {n:Nat} {x:Od}:jd8 st fr h (.load n agg x)=qg5 h n agg (ev st fr x):=j0m
theorem jpn {n b:Nat}:qg5 h n agg (some (.s (.ptr b o)))=ldR h agg (rdB (h.get b) o n):=by
 show ob (ob (rdB (h.get b) o n) _) _=_
 rw[qgv];rfl
theorem jtk {n:Nat} {cs:List SV}:qg5 h n agg (some (.s (.cp cs)))=ldR h agg (jb2 n cs):=by
 show ob (ob (jb2 n cs) _) _=_
 rw[qgv];rfl
def jid (h:Hp) (n:Nat) (x y:Option AV):R:=ob x (fun p=>ob y (fun v=>j51 h n p v))
theorem jtl {n:Nat} {x v:Od}:jd8 st fr h (.store n x v)=jid h n (ev st fr x) (ev st fr v):=rfl
def stR (h:Option Hp):R:=ob h (fun h=>ok .undef h)
theorem jtm:stR (some h)=some (.undef,h):=rfl
theorem qa8 {b:Nat} {x:SV} (k:Ok h):jid h 1 (some (.s (.ptr b o))) (some (.s x))=stR (wrB h b (h.get b) o [x]):=qa7 k
theorem j3e {n b:Nat} {cs:List SV} (k:Ok h) (hn:cs.length=n):jid h n (some (.s (.ptr b o))) (some (.agg cs))=stR (wrB h b (h.get b) o cs):=j3a k hn
def qum (h:Hp) (e:TypeId) (size bytes:Nat) (x y:Option AV):R:=ob x (fun v=>ob y (fun w=>ji4 h e size bytes v w))
theorem j6f {e:TypeId} {size:Nat} {x y:Od}:jd8 st fr h (.app e size bytes x y)=qum h e size bytes (ev st fr x) (ev st fr y):=rfl
theorem jpo {e:TypeId} {size:Nat}:qum h e size bytes (some v) (some w)=ji4 h e size bytes v w:=rfl
def bsO (h:Hp) (e:TypeId) (size len:Nat) (x:Option (List SV)):R:=ob x (fun cs=>some (.s (.slice h.next 0 len len true size),h.push (.arr cs e)))
theorem jtn {e:TypeId} {size len:Nat} {cs:List SV}:bsO h e size len (some cs)=some (.s (.slice h.next 0 len len true size),h.push (.arr cs e)):=rfl
theorem j6g {e:TypeId} {size:Nat} {len:Nat} {ps:List (Nat×Nat×Od)} (k:Ok h):jd8 st fr h (.bslice e size z len ps)=bsO h e size len (fill st fr ps z):=j3b k
def qqu (h:Hp) (e:TypeId) (x:Option AV):R:=ob x (fun v=>cel v (fun cs=>some (.s (.ptr h.next 0),h.push (.arr cs e))))
theorem qn1 {e:TypeId} {x:Od} (k:Ok h):jd8 st fr h (.box e x)=qqu h e (ev st fr x):=qgx k
theorem j6h {e:TypeId} {x:SV}:qqu h e (some (.s x))=some (.s (.ptr h.next 0),h.push (.arr [x] e)):=rfl
theorem jto {e:TypeId} {cs:List SV}:qqu h e (some (.agg cs))=some (.s (.ptr h.next 0),h.push (.arr cs e)):=rfl
def qun (h:Hp) (e:TypeId) (size bytes:Nat) (z:List SV) (x y:Option AV):R:=ob x (fun v=>ob y (fun u=>qnz h e size bytes z v u))
theorem jl3 {e:TypeId} {size:Nat} {l c:Od}:jd8 st fr h (.mkslice e size bytes z l c)=qun h e size bytes z (ev st fr l) (ev st fr c):=rfl
theorem jpp {e:TypeId} {size:Nat}:qun h e size bytes z (some v) (some w)=qnz h e size bytes z v w:=rfl
def re1 (h:Hp) (x:Option (Bool×List SV)):R:=ob x (fun p=>ob (jfz p.1 p.2) (fun v=>some (v,h)))
theorem j6i {r:IR}:jb6 (.mk fr h) [r]=re1 h (jmr fr h r):=j3c
theorem qg6 {a:SV}:re1 h (some (false,[a]))=some (.s a,h):=rfl
theorem qg7 {l:List SV}:re1 h (some (true,l))=some (.agg l,h):=rfl
def reT (g:Option AV):Option (Bool×List SV):=ob g qu1
theorem j6j:jmr fr h (.tmp g)=reT (jd9 fr g):=rfl
theorem qg8 {x:SV}:reT (some (.s x))=some (false,[x]):=rfl
theorem jyw {x:List SV}:reT (some (.agg x))=some (true,x):=rfl
def reC (h:Hp) (n:Nat) (agg:Bool) (g:Option AV):Option (Bool×List SV):=ob g (fun v=>jqv v (fun b off=>ob (rdB (h.get b) off n) (fun cs=>some (agg,cs))))
theorem jyx {n:Nat}:jmr fr h (.cell g n agg)=reC h n agg (jd9 fr g):=rfl
def reP (agg:Bool) (x:Option (List SV)):Option (Bool×List SV):=ob x (fun cs=>some (agg,cs))
theorem jtp {cs:List SV}:reP agg (some cs)=some (agg,cs):=rfl
theorem jyy {n b:Nat}:reC h n agg (some (.s (.ptr b o)))=reP agg (rdB (h.get b) o n):=rfl
def qrw (x:R) (Q:AV->Hp->Prop):Prop:=obP x (fun p=>Q p.1 p.2)
theorem jpq {Q:AV->Hp->Prop}:qrw (some (v,h)) Q=Q v h:=jb4
theorem jiv {res:List IR} {Q:AV->Hp->Prop}:j5n res Q .normal s=qrw (jb6 s res) Q:=rfl
theorem jtq {res:List IR} {Q:AV->Hp->Prop}:j5n res Q .ret s=qrw (jb6 s res) Q:=rfl
def re2 (h:Hp) (x:Option (List (Bool×List SV))):R:=ob x (fun vs=>some (.tup vs,h))
theorem jtr {l:List (Bool×List SV)}:re2 h (some l)=some (.tup l,h):=rfl
theorem j6k {r r':IR} {k:List IR}:jb6 (.mk fr h) (r::r'::k)=re2 h (jf1 fr h (r::r'::k)):=j3d
theorem jcd {size b off len mc sz:Nat} {ex:Bool} (hm:1<len):ju7 size (.s (.slice b off len mc ex sz)) (vi 1)=some (.s (.ptr b (off+size))):=by
 have:=jbc (size:=size) (b:=b) (off:=off) (len:=len) (mc:=mc) (sz:=sz) (ex:=ex) hm
 rw[Nat.one_mul] at this;exact this
theorem jdt {n size b off:Nat} (hm:0<n):qc0 n size (.s (.ptr b off)) (vi 0)=some (.s (.ptr b off)):=by
 have:=jcn (n:=n) (size:=size) (b:=b) (off:=off) hm
 rw[f12,f1i] at this;exact this
theorem jdu {n size b off:Nat} (hm:1<n):qc0 n size (.s (.ptr b off)) (vi 1)=some (.s (.ptr b (off+size))):=by
 have:=jcn (n:=n) (size:=size) (b:=b) (off:=off) hm
 rw[Nat.one_mul] at this;exact this
theorem jeh {n size:Nat} {cs:List SV} (hm:0<n):qc0 n size (.s (.cp cs)) (vi 0)=some (.s (.cp cs)):=by
 have:=je2 (n:=n) (size:=size) (cs:=cs) hm
 rw[f12] at this;exact this
theorem jei {n size:Nat} {cs:List SV} (hm:1<n):qc0 n size (.s (.cp cs)) (vi 1)=some (.s (.cp (jb8 size cs))):=by
 have:=je2 (n:=n) (size:=size) (cs:=cs) hm
 rw[Nat.one_mul] at this;exact this
theorem jts [k:Ok h]:h.hid=[]:=k.hid
theorem jj2 [k:Ok h] {n:Nat} {hid:List (Nat×Nat)}:(h.hide lo hid).get n=if jan hid n=true then none else h.get n:=qa6 k
theorem jj3 [k:Ok h] {e:TypeId} {size:Nat} {len:Nat} {ps:List (Nat×Nat×Od)}:jd8 st fr h (.bslice e size z len ps)=bsO h e size len (fill st fr ps z):=j6g k
theorem jtt [k:Ok h] {e:TypeId} {x:Od}:jd8 st fr h (.box e x)=qqu h e (ev st fr x):=qn1 k
theorem jj4 [k:Ok h] {e:TypeId}:jd8 st fr h (.new e z)=some (.s (.ptr h.next 0),h.push (.arr z e)):=qgw k
theorem jtu [k:Ok h] {b:Nat} {x:SV}:jid h 1 (some (.s (.ptr b o))) (some (.s x))=stR (wrB h b (h.get b) o [x]):=qa8 k
theorem jj5 [k:Ok h] {n b:Nat} {cs:List SV} (hn:cs.length=n):jid h n (some (.s (.ptr b o))) (some (.agg cs))=stR (wrB h b (h.get b) o cs):=j3e k hn
theorem jj6 [k:Ok h] {b:Nat} {t:SV}:jid h 2 (some (.s (.ptr b o))) (some (.agg [t,u]))=stR (wrB h b (h.get b) o [t,u]):=jj5 rfl
theorem jj7 [k:Ok h] {b:Nat} {t v:SV}:jid h 3 (some (.s (.ptr b o))) (some (.agg [t,u,v]))=stR (wrB h b (h.get b) o [t,u,v]):=jj5 rfl
theorem jj8 [k:Ok h] {b:Nat} {t v w:SV}:jid h 4 (some (.s (.ptr b o))) (some (.agg [t,u,v,w]))=stR (wrB h b (h.get b) o [t,u,v,w]):=jj5 rfl
theorem jj9 [k:Ok h] {b:Nat} {t v w x:SV}:jid h 5 (some (.s (.ptr b o))) (some (.agg [t,u,v,w,x]))=stR (wrB h b (h.get b) o [t,u,v,w,x]):=jj5 rfl
theorem jka [k:Ok h] {b:Nat} {t v w x y z:SV}:jid h 7 (some (.s (.ptr b o))) (some (.agg [t,u,v,w,x,y,z]))=stR (wrB h b (h.get b) o [t,u,v,w,x,y,z]):=jj5 rfl
theorem jkb [k:Ok h] {x:AB} {n:Nat}:(h.push x).get n=if n=h.next then some x else h.get n:=ja3 k
theorem jkc [k:Ok h] {b n:Nat} {x:Option AB} (hb:1<=b):(h.put b x).get n=if n=b then x else h.get n:=jaj k hb
def mkL (agg:Bool) (x:Option (List SV)):Option AV:=ob x (fun cs=>jfz agg cs)
theorem qg9 {cs:List SV}:mkL true (some cs)=some (.agg cs):=rfl
theorem qha {a:SV}:mkL false (some [a])=some (.s a):=rfl
theorem j6l {n b:Nat}:jmu h n agg (.s (.ptr b o))=mkL agg (rdB (h.get b) o n):=rfl
theorem qhb {n:Nat} {cs:List SV}:jmu h n agg (.s (.cp cs))=mkL agg (jb2 n cs):=rfl
theorem qhc {a b:Int} (h1:0<=a) (h3:0<b):0<=a % b/\a % b<=a:=by
 have h2:=Int.emod_add_mul_ediv a b
 have h:=Int.ediv_nonneg h1 (Int.le_of_lt h3)
 have h4:=Int.mul_nonneg (Int.le_of_lt h3) h
 exact⟨Int.emod_nonneg a (by omega),by omega⟩
theorem je4 {a b:Int} (h1:0<=a) (h2:a<=9223372036854775807) (h3:0<b):jc8 .rem (.int .i64 a) (.int .i64 b)=some (vi (a % b)):=by
 have:=qhc h1 h3
 rw[jye,if_neg (by omega),f2v h1,jhz (by omega) (by omega)]
theorem j6m {a b:Int} (h1:-9223372036854775808<=a) (h2:a<=9223372036854775807) (h3:0<b):-9223372036854775808<=a.tdiv b/\a.tdiv b<=9223372036854775807:=by
 have h:=Int.natAbs_tdiv_le_natAbs a b
 rcases(by omega:a<0∨0<=a) with h4 | h4
 .have h5:a.tdiv b<=0:=by
   obtain⟨c,rfl⟩:∃ c,a=-c:=⟨-a,by omega⟩
   rw[Int.neg_tdiv]
   have:=Int.tdiv_nonneg (a:=c) (b:=b) (by omega) (Int.le_of_lt h3)
   omega
  omega
 .omega
theorem jiw {a b:Int} (h1:-9223372036854775808<=a) (h2:a<=9223372036854775807) (h3:0<b):jc8 .quo (.int .i64 a) (.int .i64 b)=some (vi (a.tdiv b)):=by
 have:=j6m h1 h2 h3
 rw[qgr,if_neg (by omega),jhz this.1 this.2]
theorem jix {a n:Int} {k:IntKind} (h1:0<=n) (h2:n<=63):jc8 .shr (.int .i64 a) (.int k n)=some (vi (a / 2 ^ n.toNat)):=by
 obtain⟨m,rfl⟩:=Int.eq_ofNat_of_zero_le h1
 exact qgs (by omega)
theorem jej {a n:Nat}:(a=a+(n+1))=False:=eq_false (by omega)
theorem jek {a n:Nat}:(a+(n+1)=a)=False:=eq_false (by omega)
theorem qa9 {e:TypeId} {x:SV} (ok:Ok h) (h1:bytes<=1000):qnz h e 1 bytes [x] (vi 2) (vi 2)=some (.s (.slice h.next 0 2 2 true 1),h.push (.arr [x,x] e)) :=
 jyf (m:=2) ok (by omega) (by omega)
theorem jgm [ok:Ok h] {e:TypeId} {x:SV} (h1:bytes<=1000):qnz h e 1 bytes [x] (vi 2) (vi 2)=some (.s (.slice h.next 0 2 2 true 1),h.push (.arr [x,x] e)):=qa9 ok h1
theorem ji5 {a b:Nat} (h:a≠b):(a=b)=False:=eq_false h
theorem jdl {a b:Nat} (h:b<a):(a<=b)=False:=eq_false (by omega)
theorem jdm {a b:Nat} (h:b<=a):(a<b)=False:=eq_false (by omega)
theorem ji6 {a b:Nat} (h:a<=b):(a<=b)=True:=eq_true h
theorem ji7 {a b:Nat} (h:a<b):(a<b)=True:=eq_true h
theorem qu3 {a b:Int} (h:a<=b):(a<=b)=True:=eq_true h
theorem qu4 {a b:Int} (h:a<b):(a<b)=True:=eq_true h
def qhd (F:Fns) (dst:Option Nat) (m:List (IOper×Option (List Nat))) (st:List AV) (es:List Ent) (fr:List AV) (h:Hp) (Q:Ex->St->Prop) (v:AV) (h':Hp):Prop:=WD F m (v::st) (.mk [(h.next,h'.next)] none::es) (jcp fr dst v) (.mk h'.next h'.tr h.lo h.hid) Q
def zkH (F:Fns) (x:Option (List (Nat×Nat))) (vs:Option (List AV)) (f:FuncId) (dst:Option Nat) (m:List (IOper×Option (List Nat))) (st:List AV) (es:List Ent) (fr:List AV) (h:Hp) (Q:Ex->St->Prop):Prop:=obP x (fun hid'=>obP vs (fun vs=>WC F f vs (h.hide h.next hid') (qhd F dst m st es fr h Q)))
theorem jtv {x:List (Nat×Nat)} {f:FuncId}:zkH F (some x) (some vs) f dst m st es fr h Q=WC F f vs (h.hide h.next x) (qhd F dst m st es fr h Q):=by
 unfold zkH;rw[jb4,jb4]
theorem jl4 {x:List (Nat×Nat)}:qhd F dst m st es fr h Q v (h.hide lo x)=WD F m (v::st) (.mk [(h.next,h.next)] none::es) (jcp fr dst v) h Q:=by cases h;rfl
theorem jgn {f:FuncId} {as:List Od}:WD F ((.mk dst (.a (.call f as)) none,some js)::m) st es fr h Q=zkH F (sel es js h.hid) (evs st fr as) f dst m st es fr h Q:=by
 cases h with
 | mk k t lo hid =>
 rw[jop]
 have key:∀ n v h' e,jxe (jbo F (run F n)) st fr es (.mk k t lo hid) (.a (.call f as)) none (some js)=some (.mk v h' e)↔∃ x vs h1,sel es js hid=some x/\evs st fr as=some vs/\jbo F (run F n) f vs (.mk k t k x)=some (v,h1)/\h'=.mk h1.next h1.tr lo hid/\e=.mk [(k,h1.next)] none:=fun n v h' e=>by
  have e0:jxe (jbo F (run F n)) st fr es (.mk k t lo hid) (.a (.call f as)) none (some js)=ob (sel es js hid) (fun x=>ob (ob (evs st fr as) (fun vs=>jbo F (run F n) f vs (.mk k t k x))) (fun p=>Hp.casesOn (motive:=fun _=>Option DR) p.2 (fun n' t' _ _=>some (.mk p.1 (.mk n' t' lo hid) (.mk [(k,n')] none))))):=rfl
  rw[e0]
  constructor
  .intro h1
   obtain⟨x,hx,h2⟩:=jaa.1 h1
   obtain⟨p,hp,h3⟩:=jaa.1 h2
   obtain⟨vs,hvs,h4⟩:=jaa.1 hp
   obtain⟨v1,⟨n1,t1,l1,d1⟩⟩:=p
   cases h3
   exact⟨x,vs,_,hx,hvs,h4,rfl,rfl⟩
  .rintro ⟨x,vs,⟨n1,t1,l1,d1⟩,hx,hvs,h4,rfl,rfl⟩
   exact jaa.2 ⟨x,hx,jaa.2 ⟨(v,.mk n1 t1 l1 d1),jaa.2 ⟨vs,hvs,h4⟩,rfl⟩⟩
 refine propext ⟨fun⟨n,v,h',e,h1,h2⟩=>?_,fun⟨x,hx,vs,hvs,n,v,h1,h2,h3⟩=>⟨n,v,_,_,(key n v _ _).2 ⟨x,vs,h1,hx,hvs,h2,rfl,rfl⟩,h3⟩⟩
 obtain⟨x,vs,h3,hx,hvs,h4,rfl,rfl⟩:=(key n v h' e).1 h1
 exact⟨x,hx,vs,hvs,n,v,h3,h4,h2⟩
theorem jdc {a:Nat} {n:Nat}:((a:Int) / 2 ^ n)=((a / 2 ^ n:Nat):Int):=by
 rw[Int.natCast_ediv,f3e];rfl
theorem jdd:(4+(i:Int)).toNat=4+i:=by omega
theorem jde:(9+(i:Int)).toNat=9+i:=by omega
theorem jdf:(i:Int).toNat=i:=by omega
theorem jiy {a:Nat}:decide ((a:Int) % 2=1)=decide (a % 2=1):=decide_eq_decide.2 (by omega)
theorem je5 {a:Nat}:(a:Int).tdiv 4=((a / 4:Nat):Int):=rfl
theorem je6 {a:Nat}:(a:Int).tdiv 5=((a / 5:Nat):Int):=rfl
theorem jgb {x:Option AB} {off sz:Nat} {c:SV} (hr:rdB x off sz=some row) (hj:row[j]?=some c):rdB x (off+j) 1=some [c]:=by
 cases x with
 | none=>cases hr
 | some x =>
  cases x with
  | map va es=>cases hr
  | arr cs ty =>
   rw[jfx,jb3] at hr ⊢
   obtain⟨h1,rfl⟩:=(jbf _).1 hr
   have hjs:j<sz:=by
    rcases f0k j sz with h | h
    .exact h
    .rw [f0r (by simp;omega)] at hj;cases hj
   have hj2:cs[off+j]?=some c:=by
    rw[f2a,if_pos hjs,f1j] at hj;exact hj
   have hl:off+j<cs.length:=by
    rcases f0k (off+j) cs.length with h | h
    .exact h
    .rw [f0r h] at hj2;cases hj2
   refine(jbf _).2 ⟨by simp;omega,?_⟩
   have e:cs.drop (off+j)=c::cs.drop (off+j+1):=by
    rw[f08 hl]
    rw[f0b hl] at hj2
    rw[Option.some.inj hj2]
   rw[e];rfl
def mmV (mx:Bool) (x y:Option AV):Option AV:=ob x (fun a=>ob y (fun b=>jkt a (fun k m=>jkt b (fun k' n=>oif (Nat.beq (ikn k) (ikn k')) (some (.s (.int k (oif (ile m n) (oif mx n m) (oif mx m n))))) none))))
theorem qhe {mx:Bool} {x y:Od}:pop st fr (.mm mx x y)=mmV mx (ev st fr x) (ev st fr y):=rfl
theorem jyz {a b:Int}:mmV false (some (.s (.int .i64 a))) (some (.s (.int .i64 b)))=some (vi (if a<=b then a else b)):=by
 show some (AV.s (.int .i64 (oif (ile a b) a b)))=_
 rw[jau,jeb];simp only[decide_eq_true_eq]
theorem jy0 {a b:Int}:mmV true (some (.s (.int .i64 a))) (some (.s (.int .i64 b)))=some (vi (if a<=b then b else a)):=by
 show some (AV.s (.int .i64 (oif (ile a b) b a)))=_
 rw[jau,jeb];simp only[decide_eq_true_eq]
end
theorem qu5:type_of% @Int.cast_ofNat_Int:=@Int.cast_ofNat_Int
theorem qu6:type_of% @Int.natCast_zero:=@Int.natCast_zero
theorem qu7:type_of% @Int.natCast_one:=@Int.natCast_one
theorem qu8:type_of% @decide_eq_true_eq:=@decide_eq_true_eq
theorem qu9:type_of% @decide_eq_false_iff_not:=@decide_eq_false_iff_not
theorem qva:type_of% @Bool.false_eq_true:=@Bool.false_eq_true
theorem qvb:type_of% @and_true:=@and_true
theorem qvc:type_of% @true_and:=@true_and
theorem qvd:type_of% @List.cons_append:=@List.cons_append
theorem qve:type_of% @List.nil_append:=@List.nil_append
theorem qrx:type_of% @decide_true:=@decide_true
theorem qry:type_of% @decide_false:=@decide_false
theorem qrz:type_of% @Bool.not_true:=@Bool.not_true
theorem qr0:type_of% @Bool.not_false:=@Bool.not_false
theorem qr1:type_of% @Nat.add_zero:=@Nat.add_zero
theorem qr2:type_of% @Nat.zero_add:=@Nat.zero_add
theorem qr3:type_of% @Option.some.injEq:=@Option.some.injEq
theorem qr4:type_of% @Bool.true_eq_false:=@Bool.true_eq_false
theorem qr5:type_of% @not_true_eq_false:=@not_true_eq_false
theorem qr6:type_of% @not_false_eq_true:=@not_false_eq_true
theorem qr7:type_of% @Hp.next_push:=@Hp.next_push
theorem qr8:type_of% @Hp.next_put:=@Hp.next_put
theorem qr9:type_of% @Nat.add_assoc:=@Nat.add_assoc
attribute [go_sem] jgn jtv jl4 j5h qgk j5i qay jx3 jyi js5 jsm j5j j5k jyj js0 jyk js3 js2 js6 js4 jo9 js1 j5m jyl js8 js9 jym jtb jta jtd jtc jpa jhg jpb jhh jpc jfy jpd jyn jj1 jfs jlk jol jip jom jsl jhc jll jon j53 j55 jpe jl0 jyo jte j57 jyq jpg j54 j56 jpf jl1 jyp jtf j58 jyr jph qrp qrq qrr jx4 jsn jos jot jou jov jow jox jir jis qrs qrt jbi qgp joy jso jln jsp jlp qgq jx5 j5q j5r j5s jsq jlq jlr jls jlt joz jsr jo0 jo1 jlu jhe jdj jo2 jx6 jx7 qhe jyz jy0 j5t jyu jl2 jo3 jss jo4 j59 jpi jx8 jx9 j6a jtg jys jst j6e jtj jti jyt jpj jth jsu jjz jsv jo5 jlv jit jo6 jsw jsx j6b jpk jsy jj0 jlw jo7 jyb jyc jyd jiw je4 jix j5v j5w j5x j5y j5z j50 j6c jpl j6d jpm j6i qg6 qg7 j6j qg8 jyw jyx jtp jyy jpq jiv jtq jly je3 jlz j6k jtr qgz jfx jo8 jyv jpn jtk qg3 qg4 jtl jtm jl3 jpp j6f jpo jtn j6h jto jyh j52 jyg jsz jlx jiu j6l qhb qg9 qha jej jek jcd jcn je2 jdt jdu jeh jei jts jj2 jj3 jtt jj4 jtu jj6 jj7 jj8 jj9 jka jj5 jkb jkc jgm jcc jbc qu5 qu6 qu7 qu8 qu9 qva qvb qvc qvd qve qrx qry qrz qr0 qr1 qr2 qr3 qr4 qr5 qr6 qr7 qr8 qr9
end
end Go.Proofs.Ythbghmhjgdonmaa.Ev
