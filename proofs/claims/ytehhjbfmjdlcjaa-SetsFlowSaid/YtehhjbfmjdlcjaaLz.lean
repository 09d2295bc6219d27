/- Open runs: what operations answer at values that are known in part. No program in sight. -/
import Derived.Test.YtehhjbfmjdlcjaaOp
namespace Go.Proofs.Ytehhjbfmjdlcjaa.Ev
open Go Go.RowKit
set_option linter.all false
variable {t va agg ex' okf:Bool} {rows:List (List SV)} {vs:List AV} {sig:List Bool} {js:List Nat} {z xs row:List SV} {g i j o b' lo o' mc' sz' bytes:Nat}
abbrev vi (n:Int):AV:=.s (.int .i64 n)
abbrev vb (b:Bool):AV:=.s (.bool b)
abbrev si (n:Int):SV:=.int .i64 n
section
variable {st fr:List AV} {h:Hp} {α β:Type}
theorem qua:ev st fr (.l i)=jel st i:=rfl
theorem qub:ev st fr (.g i)=jel fr i:=rfl
theorem quc {v:AV}:ev st fr (.c v)=some v:=rfl
theorem jyl:evs st fr []=some []:=rfl
theorem jsk {o:Od} {l:List Od}:evs st fr (o::l)=ob (ev st fr o) (fun v=>ob (evs st fr l) (fun r=>some (v::r))):=rfl
theorem jod {a:α} {l:List α}:jel (a::l) 0=some a:=rfl
theorem joe {a:α} {l:List α} {n:Nat}:jel (a::l) (n+1)=jel l n:=rfl
theorem jof {a x:α} {l:List α}:jp5 (a::l) 0 x=x::l:=rfl
theorem jog {a x:α} {l:List α} {n:Nat}:jp5 (a::l) (n+1) x=a::jp5 l n x:=rfl
theorem joh {v:AV}:jc0 fr none v=fr:=rfl
theorem joi {d:Nat} {v:AV}:jc0 fr (some d) v=jp5 fr d v:=rfl
theorem jir:jc9 0=[]:=rfl
theorem jis {n:Nat}:jc9 (n+1)=.undef::jc9 n:=rfl
theorem qud {a:α} {f:α->Option β}:ob (some a) f=f a:=rfl
theorem que {f:α->Option β}:ob none f=none:=rfl
theorem jbe {b:Bool} {x y:α}:oif b x y=if b=true then x else y:=by cases b<;>rfl
theorem qhz {e:Option β} {x:SV} {f:SV->Option β}:svc e (.s x) f=f x:=rfl
theorem joj {e:Option β} {f:SV->Option β}:svc e .undef f=e:=rfl
theorem jsl {k:IntKind} {n:Int} {f:IntKind->Int->Option β}:qgr (.int k n) f=f k n:=rfl
theorem jk8 {b:Bool} {f:Bool->Option β}:jp6 (.bool b) f=f b:=rfl
theorem jsm {k:IntKind} {n:Int} {f:IntKind->Int->Option β}:jmh (.s (.int k n)) f=f k n:=rfl
theorem jk9 {b:Bool} {f:Bool->Option β}:jii (.s (.bool b)) f=f b:=rfl
theorem qh0 {x:SV} {f:List SV->Option β}:cel (.s x) f=f [x]:=rfl
theorem jym {l:List SV} {f:List SV->Option β}:cel (.agg l) f=f l:=rfl
theorem j6f {a:SV}:jf6 false [a]=some (.s a):=rfl
theorem j6g {l:List SV}:jf6 true l=some (.agg l):=rfl
theorem j6h {x:SV} {f:List SV->Option β}:qbo false (.s x) f=f [x]:=rfl
theorem jsn {l:List SV} {f:List SV->Option β}:qbo true (.agg l) f=f l:=rfl
theorem jla {l:List α}:jb5 0 l=some []:=rfl
theorem jlb {a:α} {l:List α} {n:Nat}:jb5 (n+1) (a::l)=ob (jb5 n l) (fun x=>some (a::x)):=rfl
theorem jh0 {l:List α}:jcj 0 l=l:=rfl
theorem jlc {a:α} {l:List α} {n:Nat}:jcj (n+1) (a::l)=jcj n l:=rfl
theorem jok {n:Nat}:jcj n ([]:List α)=[]:=by cases n<;>rfl
theorem jso:jd4 ([]:List α)=0:=rfl
theorem jol {a:α} {l:List α}:jd4 (a::l)=jd4 l+1:=rfl
theorem jom {l:List α}:jm6 [] l=some l:=rfl
theorem jld {x a:α} {xs l:List α}:jm6 (x::xs) (a::l)=ob (jm6 xs l) (fun y=>some (x::y)):=rfl
theorem jhi {xs l:List α}:jbm 0 xs l=jm6 xs l:=rfl
theorem jdm {a:α} {xs l:List α} {n:Nat}:jbm (n+1) xs (a::l)=ob (jbm n xs l) (fun y=>some (a::y)):=rfl
theorem jon {a:Nat}:Nat.beq a a=true:=f18 a
theorem jyn {a b:Nat}:(Nat.beq a b=true)=(a=b):=jg3 a b
theorem jyo {a b:Nat}:(Nat.ble a b=true)=(a<=b):=jql a b
theorem j6i {x:Od}:pop st fr (.mv x)=ev st fr x:=rfl
theorem joo {ps:List (Nat×Nat×Od)}:pop st fr (.build z ps)=ob (fill st fr ps z) (fun cs=>some (.agg cs)):=rfl
theorem jsp {cs:List SV}:fill st fr [] cs=some cs:=rfl
theorem jop {off n:Nat} {o:Od} {ps:List (Nat×Nat×Od)} {cs:List SV}:fill st fr ((off,n,o)::ps) cs=ob (ev st fr o) (fun v=>cel v (fun xs=>oif (Nat.beq (jd4 xs) n) (ob (jbm off xs cs) (fill st fr ps)) none)):=rfl
theorem jyp {x:Od}:pop st fr (.not x)=ob (ev st fr x) (fun v=>jii v (fun b=>some (.s (.bool (!b))))):=by
 show ob (ev st fr x) (fun v=>jii v (fun b=>some (AV.s (.bool (ji4 b)))))=_
 congr 1;funext v;congr 1;funext b;cases b<;>rfl
theorem jyq {x:Od}:pop st fr (.neg x)=ob (ev st fr x) (fun v=>jmh v (fun k n=>j3f k (-n))):=rfl
theorem jsq {off n:Nat} {x:Od}:pop st fr (.fval off n agg x)=none:=rfl
theorem jsr {k:IntKind} {x:Od}:pop st fr (.conv k x)=ob (ev st fr x) (fun v=>jmh v (fun _ n=>qbn k n)):=rfl
theorem jjv {f:FuncId} {cs:List Od}:pop st fr (.mkfun f cs)=ob (evs st fr cs) (fun vs=>ob (qed vs) (fun ps=>some (.s (.func f ps)))):=rfl
theorem jss:qed []=some []:=rfl
theorem joq {b:Nat} {l:List AV}:qed (.s (.ptr b o)::l)=ob (qed l) (fun r=>some ((b,o)::r)):=rfl
theorem jle:jf7 []=[]:=rfl
theorem jit {b:Nat} {l:List (Nat×Nat)}:jf7 ((b,o)::l)=.s (.ptr b o)::jf7 l:=rfl
theorem jor {b:Nat} {f:Nat->Nat->Option β} {g:List SV->Option β}:je3 (.s (.ptr b o)) f g=f b o:=rfl
theorem jst {cs:List SV} {f:Nat->Nat->Option β} {g:List SV->Option β}:je3 (.s (.cp cs)) f g=g cs:=rfl
theorem jsu {b:Nat} {f:Nat->Nat->Option β}:jvf (.s (.ptr b o)) f=f b o:=rfl
noncomputable def jxv (v:AV):Option AV:=jco v (some (.s (.int .i64 0))) (fun _ _ n _ _ _=>some (.s (.int .i64 (Int.ofNat n)))) (fun rows=>some (.s (.int .i64 (Int.ofNat (jd4 rows))))) (some (.s (.int .i64 0)))
theorem jsv:jxv (.s .nilSlice)=some (vi 0):=rfl
theorem jjw:jxv (.s (.lst rows))=some (vi rows.length):=by
 show some (AV.s (.int .i64 (Int.ofNat (jd4 rows))))=_
 rw[jbu];rfl
theorem jlf {b n mc sz:Nat} {e:Bool}:jxv (.s (.slice b o n mc e sz))=some (vi n):=rfl
def j6j (n:Int):Option AV:=if -9223372036854775808<=n/\n<=9223372036854775807 then some (vi n) else none
theorem qcn {n:Int} (h1:-9223372036854775808<=n) (h2:n<=9223372036854775807):inR .i64 n=true:=by
 cases n with
 | ofNat m=>exact(jql m 9223372036854775807).symm▸(by have:(m:Int)<=9223372036854775807:=h2
                                                      omega)
 | negSucc m=>exact(jql m 9223372036854775807).symm▸(by have:-9223372036854775808<=Int.negSucc m:=h1
                                                        omega)
theorem jos {n:Int}:j3f .i64 n=j6j n:=by
 unfold j6j
 show oif (inR .i64 n) (some (AV.s (.int .i64 n))) none=_
 split
 ·rename_i h;rw[qcn h.1 h.2];rfl
 ·rename_i h
  cases e:inR .i64 n with
  | false=>rfl
  | true =>
   rcases jez e with⟨_,a,b⟩ | ⟨e,_⟩ | ⟨e,_⟩
   ·exact absurd ⟨a,b⟩ h
   ·cases e
   ·cases e
theorem jh1 {n:Int} (h1:-9223372036854775808<=n) (h2:n<=9223372036854775807):j6j n=some (vi n):=if_pos ⟨h1,h2⟩
def w64 (n:Int):Int:=IntKind.wrap .i64 n
theorem jag {n:Int} (h1:-9223372036854775808<=n) (h2:n<=9223372036854775807):w64 n=n:=jjc (qcn h1 h2)
theorem jyr {n:Int}:qbl .i64 n=some (vi (w64 n)):=by
 show oif (inR .i64 n) (some (AV.s (.int .i64 n))) (some (AV.s (.int .i64 (IntKind.wrap .i64 n))))=_
 cases e:inR .i64 n with
 | true=>rw[show w64 n=n from jjc e];rfl
 | false=>rfl
variable {a b:Int}
theorem jys:jcu .add (.int .i64 a) (.int .i64 b)=some (vi (w64 (a+b))):=by
 rw[←jyr];show qbl .i64 (qof a b)=_;rw[j45]
theorem jyt:jcu .sub (.int .i64 a) (.int .i64 b)=some (vi (w64 (a - b))):=by rw[←jyr];rfl
theorem jyu:jcu .mul (.int .i64 a) (.int .i64 b)=some (vi (w64 (a*b))):=by rw[←jyr];rfl
theorem qh1:jcu .quo (.int .i64 a) (.int .i64 b)=if b=0 then none else j6j (a.tdiv b):=by
 rw[←jos]
 show oif (ieq b 0) none (j3f .i64 (a.tdiv b))=_
 rw[jaw,jcp];simp only[decide_eq_true_eq]
theorem jyv:jcu .rem (.int .i64 a) (.int .i64 b)=if b=0 then none else j6j (a.tmod b):=by
 rw[←jos]
 show oif (ieq b 0) none (j3f .i64 (a.tmod b))=_
 rw[jaw,jcp];simp only[decide_eq_true_eq]
theorem j6k:jcu .eq (.int .i64 a) (.int .i64 b)=some (vb (decide (a=b))):=by
 show some (AV.s (.bool (ieq a b)))=_;rw[jcp]
theorem j6l:jcu .ne (.int .i64 a) (.int .i64 b)=some (vb (decide (a≠b))):=by
 show some (AV.s (.bool (ji4 (ieq a b))))=_;rw[jcp,jgp];congr 3;by_cases h:a=b<;>simp[h]
theorem j6m:jcu .lt (.int .i64 a) (.int .i64 b)=some (vb (decide (a<b))):=by
 show some (AV.s (.bool (ji4 (ile b a))))=_;rw[jen,jgp];congr 3;by_cases h:a<b<;>simp[h]
 omega
theorem j6n:jcu .le (.int .i64 a) (.int .i64 b)=some (vb (decide (a<=b))):=by
 show some (AV.s (.bool (ile a b)))=_;rw[jen]
theorem j6o:jcu .gt (.int .i64 a) (.int .i64 b)=some (vb (decide (b<a))):=by
 show some (AV.s (.bool (ji4 (ile a b))))=_;rw[jen,jgp];congr 3;by_cases h:b<a<;>simp[h]
 omega
theorem j6p:jcu .ge (.int .i64 a) (.int .i64 b)=some (vb (decide (b<=a))):=by
 show some (AV.s (.bool (ile b a)))=_;rw[jen]
theorem qh2 {n:Nat} {k:IntKind} (hn:n<=63):jcu .shr (.int .i64 a) (.int k (n:Int))=some (vi (a / 2 ^ n)):=by
 have hs:jxw .i64 n=true:=by
  have hI:jm7 .i64=true:=rfl
  unfold jxw
  simp[jaw,jql,hn,hI]
 have e:jcu .shr (.int .i64 a) (.int k (n:Int))=jvk .shr .i64 a (n:Int):=by
  show oif (Nat.beq (ikn .i64) (ikn k)) (jvk .shr .i64 a n) (oif true (jvk .shr .i64 a n) none)=_
  cases Nat.beq (ikn .i64) (ikn k)<;>rfl
 rw[e]
 cases a with
 | ofNat m =>
  show oif (jxw .i64 n) (some (AV.s (.int .i64 (Int.ofNat (Nat.div m (Nat.pow 2 n)))))) none=_
  rw[hs]
  have:Int.ofNat (Nat.div m (Nat.pow 2 n))=Int.ofNat m / 2 ^ n:=by
   show((m / 2 ^ n:Nat):Int)=(m:Int) / 2 ^ n
   rw[Int.natCast_ediv,f3l];rfl
  rw[this];rfl
 | negSucc m =>
  show oif (jxw .i64 n) (some (AV.s (.int .i64 (Int.negSucc (Nat.div m (Nat.pow 2 n)))))) none=_
  rw[hs]
  have:Int.negSucc (Nat.div m (Nat.pow 2 n))=Int.negSucc m / 2 ^ n:=by
   obtain⟨q,hq⟩:∃ q,2 ^ n=q+1:=⟨2 ^ n - 1,by have:=Nat.two_pow_pos n;omega⟩
   have h2:(2:Int) ^ n=((q+1:Nat):Int):=by rw[←hq,f3l];rfl
   have h3:Nat.pow 2 n=q+1:=hq
   rw[h2,h3];rfl
  rw[this];rfl
theorem jgs (h1:-9223372036854775808<=a) (h2:a<=9223372036854775807):jcu .and (.int .i64 a) (.int .i64 1)=some (vi (a % 2)):=by
 have hr:=qcn h1 h2
 cases a with
 | ofNat m =>
  show oif (inR .i64 (.ofNat m)) (some (AV.s (.int .i64 (.ofNat (Nat.land m 1))))) none=_
  rw[hr]
  have:Int.ofNat (Nat.land m 1)=Int.ofNat m % 2:=by
   rw[show Nat.land m 1=m % 2 from f2e m];rfl
  rw[this];rfl
 | negSucc m =>
  show oif (inR .i64 (.negSucc m)) (some (AV.s (.int .i64 (.ofNat (Nat.xor 1 (Nat.land 1 m)))))) none=_
  rw[hr]
  have:Int.ofNat (Nat.xor 1 (Nat.land 1 m))=Int.negSucc m % 2:=by
   have e:Nat.land 1 m=m % 2:=(Nat.and_comm 1 m).trans (f2e m)
   rw[e]
   rcases Nat.mod_two_eq_zero_or_one m with h | h
   ·rw[h];show(1:Int)=_;omega
   ·rw[h];show(0:Int)=_;omega
  rw[this];rfl
theorem qh3 (h1:-9223372036854775808<=a) (h2:a<=9223372036854775807):jcu .or (.int .i64 a) (.int .i64 1)=some (vi (a+(1 - a % 2))):=by
 have hr:=qcn h1 h2
 cases a with
 | ofNat m =>
  show oif (inR .i64 (.ofNat m)) (some (AV.s (.int .i64 (.ofNat (Nat.lor m 1))))) none=_
  rw[hr]
  have:Int.ofNat (Nat.lor m 1)=Int.ofNat m+(1 - Int.ofNat m % 2):=by
   have e:m ||| 1=m+(1 - m % 2):=by
    have h1:(m ||| 1) / 2=m / 2:=by rw[Nat.or_div_two];simp
    have h2:(m ||| 1) % 2=1:=by rw[Nat.or_mod_two_eq_one];simp
    omega
   show((m ||| 1:Nat):Int)=(m:Int)+(1 - (m:Int) % 2)
   rw[e];omega
  rw[this];rfl
 | negSucc m =>
  show oif (inR .i64 (.negSucc m)) (some (AV.s (.int .i64 (.negSucc (Nat.xor m (Nat.land m 1)))))) none=_
  rw[hr]
  have:Int.negSucc (Nat.xor m (Nat.land m 1))=Int.negSucc m+(1 - Int.negSucc m % 2):=by
   have e:m ^^^ (m &&& 1)=m - m % 2:=by
    have h1:(m ^^^ (m &&& 1)) / 2=m / 2:=by rw[Nat.xor_div_two,Nat.and_div_two];simp
    have h2:¬ (m ^^^ (m &&& 1)) % 2=1:=by
     have e:m &&& 1=m % 2:=f2e m
     rw[e,Nat.xor_mod_two_eq_one];omega
    omega
   show Int.negSucc (m ^^^ (m &&& 1))=_
   rw[e];omega
  rw[this];rfl
end
structure Ok (h:Hp):Prop where
 hid:h.hid=[]
 lo:h.lo=0
 pos:1<=h.next
theorem jh2 {a b:Nat} (h:a<=b):Nat.ble a b=true:=by rw[jql];exact h
theorem jdo:Ok h0:=⟨rfl,rfl,f0g 1⟩
section
variable {h:Hp} {F:Fns} {st fr:List AV} {Q:Ex->St->Prop} {β:Type}
theorem jab {x:AB} (k:Ok h):Ok (h.push x):=⟨k.hid,k.lo,f2p k.pos⟩
theorem jad {b:Nat} {x:Option AB} (k:Ok h):Ok (h.put b x):=⟨by rw[Hp.hid_put];exact k.hid,by rw[Hp.lo_put];exact k.lo,by rw[Hp.next_put];exact k.pos⟩
theorem jav {x:AB} {n:Nat} (k:Ok h):(h.push x).get n=if n=h.next then some x else h.get n:=by
 rw[Hp.get_eq,Hp.get_eq,Hp.hid_push,k.hid]
 have e:jas [] n=false:=rfl
 rw[e]
 show(h.tr.put (Nat.succ h.next) h.next (some x)).get n=_
 split
 ·rename_i hn;subst hn;exact jbr _ _ _ _ k.pos (jlu _)
 ·rename_i hn;exact jbx _ _ _ _ n k.pos (jlu _) hn
theorem jam {b n:Nat} {x:Option AB} (k:Ok h) (hb:1<=b):(h.put b x).get n=if n=b then x else h.get n:=by
 rw[Hp.get_eq,Hp.get_eq,Hp.hid_put,k.hid,Hp.tr_put]
 have e:jas [] n=false:=rfl
 rw[e]
 show(h.tr.put (Nat.succ b) b x).get n=_
 split
 ·rename_i hn;subst hn;exact jbr _ _ _ _ hb (jlu _)
 ·rename_i hn;exact jbx _ _ _ _ n hb (jlu _) hn
noncomputable def Hp.hide (h:Hp) (lo:Nat) (hid:List (Nat×Nat)):Hp:=.mk h.next h.tr lo hid
theorem jaa {n:Nat}:jas [] n=false:=by cases n<;>rfl
theorem jiu {a b n:Nat} {l:List (Nat×Nat)}:jas ((a,b)::l) n=if a<=n/\n<b then true else jas l n:=by
 show oif (Nat.ble a n) (oif (Nat.ble (n+1) b) true (jas l n)) (jas l n)=_
 simp only[jaw,jql]
 by_cases h1:a<=n
 ·by_cases h2:n+1<=b
  ·rw[if_pos h1,if_pos h2,if_pos ⟨h1,h2⟩]
  ·rw[if_pos h1,if_neg h2,if_neg (fun h=>h2 h.2)]
 ·rw[if_neg h1,if_neg (fun h=>h1 h.1)]
theorem jer {n:Nat} {hid:List (Nat×Nat)} (k:Ok h):(h.hide lo hid).get n=if jas hid n=true then none else h.get n:=by
 rw[Hp.get_eq,Hp.get_eq,k.hid];rfl
theorem jyw {cs:List SV} {ty:TypeId} {f:Nat->Hp->Option β} (k:Ok h):nw h cs ty f=f h.next (h.push (.arr cs ty)):=by
 cases h with
 | mk n t lo hid =>
  obtain rfl:hid=[]:=k.hid
  rfl
noncomputable def rdB (x:Option AB) (off n:Nat):Option (List SV):=ob x (fun x=>AB.casesOn (motive:=fun _=>Option (List SV)) x (fun cs _=>jb5 n (jcj off cs)) (fun _ _=>none))
theorem je9 {cs:List SV} {ty:TypeId} {off n:Nat}:rdB (some (.arr cs ty)) off n=jb5 n (jcj off cs):=rfl
noncomputable def wrB (h:Hp) (b:Nat) (x:Option AB) (off:Nat) (xs:List SV):Option Hp:=ob x (fun x=>AB.casesOn (motive:=fun _=>Option Hp) x (fun cs ty=>ob (jbm off xs cs) (fun cs'=>some (h.put b (some (.arr cs' ty))))) (fun _ _=>none))
theorem qpr {b off:Nat} (k:Ok h):wr h b off xs=wrB h b (h.get b) off xs:=by
 show oif (Nat.ble h.lo b) _ none=_
 rw[k.lo];rfl
theorem jot {b:Nat} {cs:List SV} {ty:TypeId} {off:Nat}:wrB h b (some (.arr cs ty)) off xs=ob (jbm off xs cs) (fun cs'=>some (h.put b (some (.arr cs' ty)))):=rfl
noncomputable def jmb (h:Hp) (n:Nat) (agg:Bool) (v:AV):Option AV:=je3 v (fun b off=>ob (rd h b off n) (fun cs=>jf6 agg cs)) (fun cs=>ob (jb5 n cs) (fun cs=>jf6 agg cs))
theorem qh4 {α γ:Type} {x:Option α} {f:α->Option β} {g:β->Option γ}:ob (ob x f) g=ob x (fun a=>ob (f a) g):=by cases x<;>rfl
theorem j1b {n:Nat} {x:Od}:jd9 st fr h (.load n agg x)=ob (ev st fr x) (fun v=>ob (jmb h n agg v) (fun v=>ok v h)):=by
 show ob (ev st fr x) (fun v=>je3 v (fun b off=>ob (rd h b off n) (fun cs=>ob (jf6 agg cs) (fun v=>ok v h))) (fun cs=>ob (jb5 n cs) (fun cs=>ob (jf6 agg cs) (fun v=>ok v h))))=_
 congr 1
 funext v
 cases v with
 | s v=>cases v<;>first | rfl | (show ob _ _=ob (ob _ _) _;rw[qh4])
 | _=>rfl
noncomputable def j6q (h:Hp) (n:Nat) (p v:AV):R:=jvf p (fun b off=>cel v (fun cs=>oif (Nat.beq (jd4 cs) n) (ob (wr h b off cs) (fun h=>ok .undef h)) none))
theorem qco {b:Nat} {v:SV} (k:Ok h):j6q h 1 (.s (.ptr b o)) (.s v)=ob (wrB h b (h.get b) o [v]) (fun h=>ok .undef h):=by
 show ob (wr h b o [v]) _=_
 rw[qpr k]
theorem j4b {n b:Nat} {cs:List SV} (k:Ok h) (hn:cs.length=n):j6q h n (.s (.ptr b o)) (.agg cs)=ob (wrB h b (h.get b) o cs) (fun h=>ok .undef h):=by
 show oif (Nat.beq (jd4 cs) n) (ob (wr h b o cs) _) none=_
 rw[qpr k,jbu,hn,f18];rfl
theorem jgt {e:TypeId} (k:Ok h):jd9 st fr h (.new e z)=some (.s (.ptr h.next 0),h.push (.arr z e)):=by
 show nw h z e (fun n h=>ok (.s (.ptr n 0)) h)=_
 rw[jyw k];rfl
theorem qh5 {e:TypeId} {x:Od} (k:Ok h):jd9 st fr h (.box e x)=ob (ev st fr x) (fun v=>cel v (fun cs=>some (.s (.ptr h.next 0),h.push (.arr cs e)))):=by
 show ob (ev st fr x) (fun v=>cel v (fun cs=>nw h cs e (fun n h=>ok (.s (.ptr n 0)) h)))=_
 congr 1;funext v;congr 1;funext cs;rw[jyw k];rfl
theorem j4c {e:TypeId} {size:Nat} {len:Nat} {ps:List (Nat×Nat×Od)} (k:Ok h):jd9 st fr h (.bslice e size z len ps)=ob (fill st fr ps z) (fun cs=>some (.s (.slice h.next 0 len len true size),h.push (.arr cs e))):=by
 show ob (fill st fr ps z) (fun cs=>nw h cs e (fun n h=>ok (.s (.slice n 0 len len true size)) h))=_
 congr 1;funext cs;rw[jyw k];rfl
noncomputable def qth (h:Hp) (e:TypeId) (size bytes:Nat) (z:List SV) (l c:AV):R:=qef l (fun m=>qef c (fun k=>oif (Nat.ble m k) (oif (Nat.ble (Nat.mul bytes k) 1000000000) (oif (Nat.ble k 1000000000) (nw h (rep z k) e (fun b h=>ok (.s (.slice b 0 m k true size)) h)) none) none) none))
theorem jsw {e:TypeId} {size:Nat} {m:Nat} (k:Ok h) (h1:bytes*m<=1000000000) (h2:m<=1000000000):qth h e size bytes z (vi m) (vi m)=some (.s (.slice h.next 0 m m true size),h.push (.arr (rep z m) e)):=by
 show oif (Nat.ble m m) (oif (Nat.ble (Nat.mul bytes m) 1000000000) (oif (Nat.ble m 1000000000) (nw h (rep z m) e _) none) none) none=_
 rw[jyw k,jh2 (f0g m),jh2 h2,show Nat.ble (Nat.mul bytes m) 1000000000=true from jh2 h1];rfl
noncomputable def jwg (size:Nat) (v w:AV):Option AV:=jco v none (fun b off len _ _ _=>jkj w len (fun m=>some (.s (.ptr b (Nat.add off (Nat.mul m size))))))
 (fun rows=>jkj w (jd4 rows) (fun m=>ob (jel rows m) (fun row=>oif (Nat.beq (jd4 row) size) (some (.s (.cp row))) none))) none
theorem jhj {m n:Nat} {f:Nat->Option β} (hm:m<n):jkj (vi (m:Int)) n f=f m:=by
 show oif (Nat.ble (Nat.succ m) n) (f m) none=_
 rw[jh2 (show Nat.succ m<=n from hm)];rfl
theorem jbg {size b off len mc sz m:Nat} {ex:Bool} (hm:m<len):jwg size (.s (.slice b off len mc ex sz)) (vi (m:Int))=some (.s (.ptr b (off+m*size))):=jhj (f:=fun m=>some (AV.s (.ptr b (Nat.add off (Nat.mul m size))))) hm
theorem jcf {size b off len mc sz:Nat} {ex:Bool} (hm:0<len):jwg size (.s (.slice b off len mc ex sz)) (vi 0)=some (.s (.ptr b off)):=by
 have:=jhj (f:=fun m=>some (AV.s (.ptr b (Nat.add off (Nat.mul m size))))) hm
 refine this.trans ?_
 show some (AV.s (.ptr b (off+0*size)))=_
 rw[f2s,f0u]
theorem j1c {size m:Nat} (hr:rows[m]?=some row) (hl:row.length=size):jwg size (.s (.lst rows)) (vi (m:Int))=some (.s (.cp row)):=by
 have hm:m<rows.length:=by
  rcases f0k m rows.length with h | h
  ·exact h
  ·rw[f0p h] at hr;cases hr
 have:=jhj (f:=fun m=>ob (jel rows m) (fun row=>oif (Nat.beq (jd4 row) size) (some (AV.s (.cp row))) none)) (show m<jd4 rows by rw[jbu];exact hm)
 refine this.trans ?_
 rw[jca,hr]
 show oif (Nat.beq (jd4 row) size) _ none=_
 rw[jbu,hl,f18];rfl
noncomputable def qep (n size:Nat) (v w:AV):Option AV:=je3 v (fun b off=>jkj w n (fun m=>some (.s (.ptr b (Nat.add off (Nat.mul m size)))))) (fun cs=>jkj w n (fun m=>some (.s (.cp (jcj (Nat.mul m size) cs)))))
theorem jcs {n size b off m:Nat} (hm:m<n):qep n size (.s (.ptr b off)) (vi (m:Int))=some (.s (.ptr b (off+m*size))):=jhj (f:=fun m=>some (AV.s (.ptr b (Nat.add off (Nat.mul m size))))) hm
theorem jfa {n size m:Nat} {cs:List SV} (hm:m<n):qep n size (.s (.cp cs)) (vi (m:Int))=some (.s (.cp (jcj (m*size) cs))):=jhj (f:=fun m=>some (AV.s (.cp (jcj (Nat.mul m size) cs)))) hm
noncomputable def qwp (h:Hp) (e:TypeId) (size bytes b n m:Nat) (x:Option AB) (new:List SV):R :=
 jkk bytes (Nat.add n m) (ob x (fun x=>AB.casesOn (motive:=fun _=>R) x (fun cs ty =>
  ob (jb5 (Nat.mul n size) (jcj 0 cs)) (fun old=>(oif (Nat.ble h.lo b) (oif (Nat.beq ty e) (nw (h.put b none) (jgo old new) e (fun k h=>ok (.s (.slice k 0 (Nat.add n m) (Nat.add n m) false size)) h)) none) none))) (fun _ _=>none)))
noncomputable def jq8 (h:Hp) (e:TypeId) (size bytes:Nat) (v w:AV):R:=jco w (qbf v (ok v h)) (fun b' off' m _ _ _=>ob (rd h b' off' (Nat.mul m size)) (fun new=>j3h h e size bytes m v new))
 (fun rows=>ob (jrv size rows) (fun new=>j3h h e size bytes (jd4 rows) v new)) (qbf v (ok v h))
theorem jqc {e:TypeId} {size m:Nat}:jq8 h e size bytes (.s .nilSlice) (.s (.slice b' o' m mc' ex' sz'))=ob (rdB (h.get b') o' (m*size)) (fun new=>Nat.casesOn (motive:=fun _=>R) m (some (.s .nilSlice,h)) (fun _=>jkk bytes m (nw h new e (fun k h=>ok (.s (.slice k 0 m m false size)) h)))):=rfl
theorem jsx {n:Nat} {x:R} (h1:n*bytes<=1000000000) (h2:n<=1000000000):jkk bytes n x=x:=by
 show oif (Nat.ble (Nat.mul n bytes) 1000000000) (oif (Nat.ble n 1000000000) x none) none=_
 rw[show Nat.ble (Nat.mul n bytes) 1000000000=true from jh2 h1,jh2 h2];rfl
theorem jmc {e:TypeId} {size b n m:Nat} (hm:1<=m):jq8 h e size bytes (.s (.slice b 0 n n false size)) (.s (.slice b' o' m mc' ex' sz'))=ob (rdB (h.get b') o' (m*size)) (fun new=>qwp h e size bytes b n m (h.get b) new):=by
 show ob (rdB (h.get b') o' (m*size)) (fun new=>oif (Nat.beq size size) (oif (Nat.ble (Nat.add n m) n) _ (jkk bytes (Nat.add n m) (jij h e size b 0 n m false new))) none)=_
 congr 1
 funext new
 have e1:Nat.ble (Nat.add n m) n=false:=by
  cases e:Nat.ble (Nat.add n m) n with
  | false=>rfl
  | true=>rw[jql] at e;have:n+m<=n:=e;omega
 rw[f18]
 show oif (Nat.ble (Nat.add n m) n) _ _=_
 rw[e1]
 rfl
theorem qh6 {e:TypeId} {size b n m:Nat} {cs new:List SV} (k:Ok h) (hc:cs.length=n*size) (h1:(n+m)*bytes<=1000000000) (h2:n+m<=1000000000) :
 qwp h e size bytes b n m (some (.arr cs e)) new=some (.s (.slice h.next 0 (n+m) (n+m) false size),(h.put b none).push (.arr (cs++new) e)):=by
 show jkk bytes (n+m) (ob (jb5 (n*size) cs) (fun old=>oif (Nat.ble h.lo b) (oif (Nat.beq e e) (nw (h.put b none) (jgo old new) e _) none) none))=_
 rw[jsx h1 h2,(jbc _).2 ⟨f22 hc.symm,rfl⟩,←hc,f26]
 show oif (Nat.ble h.lo b) (oif (Nat.beq e e) (nw (h.put b none) (jgo cs new) e _) none) none=_
 rw[k.lo,f18,jyw (jad k),jdd,Hp.next_put]
 rfl
noncomputable def qxc (v:AV):Option (Bool×List SV):=AV.casesOn (motive:=fun _=>Option (Bool×List SV)) v (fun s=>some (false,[s])) (fun l=>some (true,l)) (fun _=>none) none none
theorem jlg:jf9 fr h []=some []:=rfl
theorem jfb {r:IR} {l:List IR}:jf9 fr h (r::l)=ob (jl8 fr h r) (fun v=>ob (jf9 fr h l) (fun x=>some (v::x))):=rfl
theorem jlh:jb7 (.mk fr h) []=some (.tup [],h):=rfl
theorem j4d {r:IR}:jb7 (.mk fr h) [r]=ob (jl8 fr h r) (fun p=>ob (jf6 p.1 p.2) (fun v=>some (v,h))):=by
 show ob (ob (jl8 fr h r) (fun v=>ob (some []) (fun x=>some (v::x)))) (fun vs=>List.casesOn (motive:=fun _=>R) vs (ok (.tup []) h) (fun p r=>List.casesOn (motive:=fun _=>R) r (ob (jf6 p.1 p.2) (fun v=>ok v h)) (fun _ _=>ok (.tup vs) h)))=_
 cases jl8 fr h r<;>rfl
theorem j4e {r r':IR} {l:List IR}:jb7 (.mk fr h) (r::r'::l)=ob (jf9 fr h (r::r'::l)) (fun vs=>some (.tup vs,h)):=by
 show ob (jf9 fr h (r::r'::l)) (fun vs=>List.casesOn (motive:=fun _=>R) vs (ok (.tup []) h) (fun p r=>List.casesOn (motive:=fun _=>R) r (ob (jf6 p.1 p.2) (fun v=>ok v h)) (fun _ _=>ok (.tup vs) h)))=_
 rw[jfb,jfb]
 cases jl8 fr h r with
 | none=>rfl
 | some a=>cases jl8 fr h r' with
  | none=>rfl
  | some b=>cases jf9 fr h l<;>rfl
theorem qcp {v:AV}:ok v h=some (v,h):=rfl
theorem jyx {es:List Ent} {hid:List (Nat×Nat)}:sel es [] hid=some hid:=rfl
theorem jsy {es:List Ent} {hid:List (Nat×Nat)}:sel es (j::js) hid=ob (jel es j) (fun e=>ob (sel es js hid) (fun l=>Ent.casesOn (motive:=fun _=>Option (List (Nat×Nat))) e (fun iv _=>some (iv++l)))):=by
 show ob (jel es j) (fun e=>ob (sel es js hid) (fun l=>Ent.casesOn (motive:=fun _=>Option (List (Nat×Nat))) e (fun iv _=>some (jgo iv l))))=_
 simp only[jdd]
def fpV:AV->List Nat
 | .s (.ptr b _)=>[b]
 | _=>[]
theorem jyy {b:Nat}:fpV (.s (.ptr b o))=[b]:=rfl
theorem j6r {cs:List SV}:fpV (.s (.cp cs))=[]:=rfl
theorem jwh {es:List Ent} {dst:Option Nat} {n:Nat} {x:Od} {l:List (IOper×Option (List Nat))}:WD F ((.mk dst (.a (.load n agg x)) none,some js)::l) st es fr h Q=obP (sel es js h.hid) (fun hid'=>obP (ev st fr x) (fun p=>obP (jmb (h.hide h.next hid') n agg p) (fun v=>WD F l (v::st) (.mk [] (some (fpV p))::es) (jc0 fr dst v) h Q))):=by
 cases h with
 | mk k t lo hid =>
 rw[j6e (x:=ob (sel es js hid) (fun hid'=>ob (ev st fr x) (fun p=>ob (jmb (.mk k t k hid') n agg p) (fun v=>some (DR.mk v (.mk k t lo hid) (.mk [] (some (fpV p)))))))) (fun cl=>?_)]
 ·refine propext ⟨fun⟨p,h1,h2⟩=>?_,fun⟨hid',h0,q,h1,v,h2,h3⟩=>⟨.mk v (.mk k t lo hid) (.mk [] (some (fpV q))),jac.2 ⟨hid',h0,jac.2 ⟨q,h1,jac.2 ⟨v,h2,rfl⟩⟩⟩,h3⟩⟩
  obtain⟨hid',h3,h4⟩:=jac.1 h1
  obtain⟨q,h5,h6⟩:=jac.1 h4
  obtain⟨v,h7,h8⟩:=jac.1 h6
  cases h8
  exact⟨hid',h3,q,h5,v,h7,h2⟩
 ·show jlt cl st fr es (.mk k t lo hid) (.a (.load n agg x)) js=_
  show ob (sel es js hid) (fun hid'=>Cls.casesOn (motive:=fun _=>Option DR) (jvm (ob (ev st fr x) (fun v=>je3 v (fun b _=>some (Cls.load b)) (fun _=>some .quiet))) (fun c=>c))
   (jmi cl st fr k t lo k hid hid' (.a (.load n agg x)) (fun n'=>.mk [(k,n')] (some [])))
   (fun x'=>jmi cl st fr k t lo k hid hid' (.a (.load n agg x)) (fun _=>.mk [] (some [x'])))
   (fun b=>oif (jja es js b) (oif (Nat.ble lo b) (ob (Hp.get (.mk k t lo hid') b) (fun _=>jmi cl st fr k t lo lo hid hid' (.a (.load n agg x)) (fun n'=>.mk [(b,Nat.succ b),(k,n')] none))) none) none)
   (jmi cl st fr k t lo k hid hid' (.a (.load n agg x)) (fun _=>.mk [] (some [])))
   (jmi cl st fr k t lo k hid hid' (.a (.load n agg x)) (fun n'=>.mk [(k,n')] none)))=_
  congr 1
  funext hid'
  have key:∀ e:Nat->Ent,jmi cl st fr k t lo k hid hid' (.a (.load n agg x)) e=ob (ev st fr x) (fun p=>ob (jmb (.mk k t k hid') n agg p) (fun v=>some (DR.mk v (.mk k t lo hid) (e k)))):=fun e=>by
   show ob (aop cl st fr (.mk k t k hid') (.load n agg x)) _=_
   rw[jiq (show AO.calls (.load n agg x)=false from rfl),j1b]
   cases ev st fr x with
   | none=>rfl
   | some p =>
    show ob (ob (jmb (.mk k t k hid') n agg p) _) _=ob (jmb (.mk k t k hid') n agg p) _
    cases jmb (.mk k t k hid') n agg p<;>rfl
  have k1:=key (fun n'=>.mk [(k,n')] none)
  have k3:=key (fun _=>.mk [] (some []))
  have k2:=fun b=>key (fun _=>.mk [] (some [b]))
  cases hx:ev st fr x with
  | none =>
   rw[hx] at k1
   exact k1
  | some p =>
   rw[hx] at k1 k3
   simp only[hx] at k2
   cases p with
   | s p =>
    cases p with
    | ptr b o=>exact k2 b
    | cp cs=>exact k3
    | _=>exact k1
   | _=>exact k1
theorem jqd {es:List Ent} {dst:Option Nat} {e:TypeId} {size:Nat} {len:Nat} {ps:List (Nat×Nat×Od)} {l:List (IOper×Option (List Nat))}:WD F ((.mk dst (.a (.bslice e size z len ps)) none,some js)::l) st es fr h Q=obP (sel es js h.hid) (fun hid'=>obP (fill st fr ps z) (fun cs=>jas hid' h.next=false/\WD F l (.s (.slice h.next 0 len len true size)::st) (.mk [(h.next,h.next+1)] (some [])::es) (jc0 fr dst (.s (.slice h.next 0 len len true size))) (h.push (.arr cs e)) Q)):=by
 cases h with
 | mk k t lo hid =>
 rw[j6e (x:=ob (sel es js hid) (fun hid'=>ob (fill st fr ps z) (fun cs=>oif (jas hid' k) none (some (DR.mk (.s (.slice k 0 len len true size)) ((Hp.mk k t lo hid).push (.arr cs e)) (.mk [(k,k+1)] (some []))))))) (fun cl=>?_)]
 ·refine propext ⟨fun⟨p,h1,h2⟩=>?_,fun⟨hid',h0,cs,h1,h2,h3⟩=>⟨DR.mk (.s (.slice k 0 len len true size)) ((Hp.mk k t lo hid).push (.arr cs e)) (.mk [(k,k+1)] (some [])),jac.2 ⟨hid',h0,jac.2 ⟨cs,h1,?_⟩⟩,h3⟩⟩
  ·obtain⟨hid',h3,h4⟩:=jac.1 h1
   obtain⟨cs,h5,h6⟩:=jac.1 h4
   rw[jaw] at h6
   split at h6
   ·cases h6
   ·rename_i h7
    cases h6
    exact⟨hid',h3,cs,h5,Bool.eq_false_iff.2 h7,h2⟩
  ·have h2':jas hid' k=false:=h2
   rw[h2'];rfl
 ·show jlt cl st fr es (.mk k t lo hid) (.a (.bslice e size z len ps)) js=_
  show ob (sel es js hid) (fun hid'=>ob (ob (fill st fr ps z) (fun cs=>oif (jas hid' k) none (ok (.s (.slice k 0 len len true size)) (Hp.mk (Nat.succ k) (t.put (Nat.succ k) k (some (.arr cs e))) k hid')))) (fun p=>Hp.casesOn (motive:=fun _=>Option DR) p.2 (fun n' t' _ _=>some (.mk p.1 (.mk n' t' lo hid) (.mk [(k,n')] (some []))))))=_
  congr 1
  funext hid'
  cases fill st fr ps z with
  | none=>rfl
  | some cs =>
   show ob (oif (jas hid' k) none _) _=oif (jas hid' k) none _
   cases jas hid' k<;>rfl
end
section
variable {F:Fns} {s:St} {st fr:List AV} {h h':Hp} {Q:Ex->St->Prop} {l:List IOper} {dst:Option Nat} {v w:AV} {m:List (IOper×Option (List Nat))} {es:List Ent}
def zpO (F:Fns) (x:Option AV) (dst:Option Nat) (l:List IOper) (st fr:List AV) (h:Hp) (Q:Ex->St->Prop):Prop:=obP x (fun v=>WO F l (v::st) (jc0 fr dst v) h Q)
theorem jsz:zpO F (some v) dst l st fr h Q=WO F l (v::st) (jc0 fr dst v) h Q:=jce
def zmO (F:Fns) (x:R) (dst:Option Nat) (l:List IOper) (st fr:List AV) (Q:Ex->St->Prop):Prop:=obP x (fun p=>WO F l (p.1::st) (jc0 fr dst p.1) p.2 Q)
theorem js0:zmO F (some (v,h)) dst l st fr Q=WO F l (v::st) (jc0 fr dst v) h Q:=jce
def qh7 (F:Fns) (dst:Option Nat) (l:List IOper) (st fr:List AV) (Q:Ex->St->Prop) (v:AV) (h:Hp):Prop:=WO F l (v::st) (jc0 fr dst v) h Q
theorem js1:qh7 F dst l st fr Q v h=WO F l (v::st) (jc0 fr dst v) h Q:=rfl
def zkO (F:Fns) (x:Option (List AV)) (f:FuncId) (dst:Option Nat) (l:List IOper) (st fr:List AV) (h:Hp) (Q:Ex->St->Prop):Prop:=obP x (fun vs=>WC F f vs h (qh7 F dst l st fr Q))
theorem js2 {f:FuncId}:zkO F (some vs) f dst l st fr h Q=WC F f vs h (qh7 F dst l st fr Q):=jce
def zgO (F:Fns) (x:Option AV) (t:Bool) (dst:Option Nat) (op:IOp) (l:List IOper) (st fr:List AV) (h:Hp) (Q:Ex->St->Prop):Prop:=gP x t (WO F (.mk dst op none::l) st fr h Q) (WO F l (.undef::st) (jc0 fr dst .undef) h Q)
theorem js3 {b:Bool} {op:IOp}:zgO F (some (.s (.bool b))) t dst op l st fr h Q=if b=t then WO F (.mk dst op none::l) st fr h Q else WO F l (.undef::st) (jc0 fr dst .undef) h Q:=j6c
theorem jou {op:IOp}:zgO F (some .undef) t dst op l st fr h Q=WO F l (.undef::st) (jc0 fr dst .undef) h Q:=j09
def zcO (F:Fns) (x:Option AV) (a b:IC) (fr:List AV) (h:Hp) (Q:Ex->St->Prop):Prop:=qt9 x (W F a (.mk fr h) Q) (W F b (.mk fr h) Q)
theorem js4 {b:Bool} {x y:IC}:zcO F (some (.s (.bool b))) x y fr h Q=if b=true then W F x (.mk fr h) Q else W F y (.mk fr h) Q:=j57
theorem jyz {c:Od} {x y:IC}:W F (.cond c x y) (.mk fr h) Q=zcO F (ev [] fr c) x y fr h Q:=qpp
theorem jy0 {o:PO}:WO F (.mk dst (.p o) none::l) st fr h Q=zpO F (pop st fr o) dst l st fr h Q:=qhu
theorem jy1 {f:FuncId} {as:List Od}:WO F (.mk dst (.a (.call f as)) none::l) st fr h Q=zkO F (evs st fr as) f dst l st fr h Q:=qhv
theorem js5 {op:IOp}:WO F (.mk dst op (some (i,t))::l) st fr h Q=zgO F (jel st i) t dst op l st fr h Q:=qci
theorem j1d {x:Od} {as:List Od} {f:FuncId} {caps:List (Nat×Nat)} (hx:ev st fr x=some (.s (.func f caps))):WO F (.mk dst (.a (.callv x as)) none::l) st fr h Q=zkO F (ob (evs st fr as) (fun vs=>some (vs++jf7 caps))) f dst l st fr h Q:=by
 rw[qch]
 refine propext ⟨fun⟨g,cs,h1,vs,h2,h3⟩=>?_,fun⟨vs,h1,h2⟩=>?_⟩
 ·rw[hx] at h1;cases h1
  exact⟨_,jac.2 ⟨vs,h2,rfl⟩,h3⟩
 ·obtain⟨us,h3,h4⟩:=jac.1 h1
  cases h4
  exact⟨f,caps,hx,us,h3,h2⟩
def zpD (F:Fns) (x:Option AV) (e:Ent) (dst:Option Nat) (m:List (IOper×Option (List Nat))) (st:List AV) (es:List Ent) (fr:List AV) (h:Hp) (Q:Ex->St->Prop):Prop:=obP x (fun v=>WD F m (v::st) (e::es) (jc0 fr dst v) h Q)
theorem js6 {e:Ent}:zpD F (some v) e dst m st es fr h Q=WD F m (v::st) (e::es) (jc0 fr dst v) h Q:=jce
def zmD (F:Fns) (x:R) (dst:Option Nat) (m:List (IOper×Option (List Nat))) (st:List AV) (es:List Ent) (fr:List AV) (Q:Ex->St->Prop):Prop:=obP x (fun p=>WD F m (p.1::st) (.mk [] (some [])::es) (jc0 fr dst p.1) p.2 Q)
theorem js7:zmD F (some (v,h)) dst m st es fr Q=WD F m (v::st) (.mk [] (some [])::es) (jc0 fr dst v) h Q:=jce
def qh8 (F:Fns) (dst:Option Nat) (m:List (IOper×Option (List Nat))) (st:List AV) (es:List Ent) (fr:List AV) (Q:Ex->St->Prop) (v:AV) (h:Hp):Prop:=WD F m (v::st) (.mk [] (some [])::es) (jc0 fr dst v) h Q
theorem js8:qh8 F dst m st es fr Q v h=WD F m (v::st) (.mk [] (some [])::es) (jc0 fr dst v) h Q:=rfl
def zkD (F:Fns) (x:Option (List AV)) (f:FuncId) (dst:Option Nat) (m:List (IOper×Option (List Nat))) (st:List AV) (es:List Ent) (fr:List AV) (h:Hp) (Q:Ex->St->Prop):Prop:=obP x (fun vs=>WC F f vs h (qh8 F dst m st es fr Q))
theorem js9 {f:FuncId}:zkD F (some vs) f dst m st es fr h Q=WC F f vs h (qh8 F dst m st es fr Q):=jce
def zgD (F:Fns) (x:Option AV) (t:Bool) (dst:Option Nat) (op:IOp) (o:Option (List Nat)) (m:List (IOper×Option (List Nat))) (st:List AV) (es:List Ent) (fr:List AV) (h:Hp) (Q:Ex->St->Prop):Prop:=gP x t (WD F ((.mk dst op none,o)::m) st es fr h Q) (WD F m (.undef::st) (.mk [] (some [])::es) (jc0 fr dst .undef) h Q)
theorem jta {b:Bool} {op:IOp} {o:Option (List Nat)}:zgD F (some (.s (.bool b))) t dst op o m st es fr h Q=if b=t then WD F ((.mk dst op none,o)::m) st es fr h Q else WD F m (.undef::st) (.mk [] (some [])::es) (jc0 fr dst .undef) h Q:=j6c
theorem jov {op:IOp} {o:Option (List Nat)}:zgD F (some .undef) t dst op o m st es fr h Q=WD F m (.undef::st) (.mk [] (some [])::es) (jc0 fr dst .undef) h Q:=j09
theorem jy2 {o:PO}:WD F ((.mk dst (.p o) none,none)::m) st es fr h Q=zpD F (pop st fr o) (.mk [] (some [])) dst m st es fr h Q:=qhw
theorem jy3 {f:FuncId} {as:List Od}:WD F ((.mk dst (.a (.call f as)) none,none)::m) st es fr h Q=zkD F (evs st fr as) f dst m st es fr h Q:=qhx
theorem jtb {op:IOp} {o:Option (List Nat)}:WD F ((.mk dst op (some (i,t)),o)::m) st es fr h Q=zgD F (jel st i) t dst op o m st es fr h Q:=qcj
def qwq (F:Fns) (x:Option (List (Nat×Nat))) (o:Option AV) (dst:Option Nat) (m:List (IOper×Option (List Nat))) (st:List AV) (es:List Ent) (fr:List AV) (h:Hp) (Q:Ex->St->Prop):Prop:=obP x (fun _=>zpD F o (.mk [(h.next,h.next)] (some [])) dst m st es fr h Q)
theorem jow {x:List (Nat×Nat)} {o:Option AV}:qwq F (some x) o dst m st es fr h Q=zpD F o (.mk [(h.next,h.next)] (some [])) dst m st es fr h Q:=jce
theorem jhk {o:PO}:WD F ((.mk dst (.p o) none,some js)::m) st es fr h Q=qwq F (sel es js h.hid) (pop st fr o) dst m st es fr h Q:=jwd
def quf (F:Fns) (x:Option (List (Nat×Nat))) (n:Nat) (agg:Bool) (p:Option AV) (dst:Option Nat) (m:List (IOper×Option (List Nat))) (st:List AV) (es:List Ent) (fr:List AV) (h:Hp) (Q:Ex->St->Prop):Prop:=obP x (fun hid'=>obP p (fun p=>zpD F (jmb (h.hide h.next hid') n agg p) (.mk [] (some (fpV p))) dst m st es fr h Q))
theorem jox {x:List (Nat×Nat)} {n:Nat}:quf F (some x) n agg (some w) dst m st es fr h Q=zpD F (jmb (h.hide h.next x) n agg w) (.mk [] (some (fpV w))) dst m st es fr h Q:=by
 unfold quf;rw[jce,jce]
theorem jhl {n:Nat} {x:Od}:WD F ((.mk dst (.a (.load n agg x)) none,some js)::m) st es fr h Q=quf F (sel es js h.hid) n agg (ev st fr x) dst m st es fr h Q:=jwh
def qug (F:Fns) (x:Option (List (Nat×Nat))) (cs:Option (List SV)) (e:TypeId) (size len:Nat) (dst:Option Nat) (m:List (IOper×Option (List Nat))) (st:List AV) (es:List Ent) (fr:List AV) (h:Hp) (Q:Ex->St->Prop):Prop:=obP x (fun hid'=>obP cs (fun cs=>jas hid' h.next=false/\WD F m (.s (.slice h.next 0 len len true size)::st) (.mk [(h.next,h.next+1)] (some [])::es) (jc0 fr dst (.s (.slice h.next 0 len len true size))) (h.push (.arr cs e)) Q))
theorem joy {x:List (Nat×Nat)} {cs:List SV} {e:TypeId} {size len:Nat} (hx:jas x h.next=false):qug F (some x) (some cs) e size len dst m st es fr h Q=WD F m (.s (.slice h.next 0 len len true size)::st) (.mk [(h.next,h.next+1)] (some [])::es) (jc0 fr dst (.s (.slice h.next 0 len len true size))) (h.push (.arr cs e)) Q:=by
 unfold qug;rw[jce,jce];exact propext ⟨fun h=>h.2,fun h=>⟨hx,h⟩⟩
theorem jf2 {e:TypeId} {size:Nat} {len:Nat} {ps:List (Nat×Nat×Od)}:WD F ((.mk dst (.a (.bslice e size z len ps)) none,some js)::m) st es fr h Q=qug F (sel es js h.hid) (fill st fr ps z) e size len dst m st es fr h Q:=jqd
def qxd (F:Fns) (x:Option (List (Nat×Nat))) (u:AV) (dst:Option Nat) (m:List (IOper×Option (List Nat))) (st:List AV) (es:List Ent) (fr:List AV) (h:Hp) (Q:Ex->St->Prop):Prop:=obP x (fun _=>WD F m (u::st) (.mk [(h.next,h.next)] none::es) (jc0 fr dst u) h Q)
theorem joz {x:List (Nat×Nat)} {u:AV}:qxd F (some x) u dst m st es fr h Q=WD F m (u::st) (.mk [(h.next,h.next)] none::es) (jc0 fr dst u) h Q:=jce
theorem j6s {e:TypeId}:WO F (.mk dst (.a (.new e z)) none::l) st fr h Q=zmO F (jd9 st fr h (.new e z)) dst l st fr Q:=jfx rfl
theorem j6t {e:TypeId}:WD F ((.mk dst (.a (.new e z)) none,none)::m) st es fr h Q=zmD F (jd9 st fr h (.new e z)) dst m st es fr Q:=jfy rfl
theorem j6u {e:TypeId} {x:Od}:WO F (.mk dst (.a (.box e x)) none::l) st fr h Q=zmO F (jd9 st fr h (.box e x)) dst l st fr Q:=jfx rfl
theorem j6v {e:TypeId} {x:Od}:WD F ((.mk dst (.a (.box e x)) none,none)::m) st es fr h Q=zmD F (jd9 st fr h (.box e x)) dst m st es fr Q:=jfy rfl
theorem jo0 {e:TypeId} {size:Nat} {len:Nat} {ps:List (Nat×Nat×Od)}:WO F (.mk dst (.a (.bslice e size z len ps)) none::l) st fr h Q=zmO F (jd9 st fr h (.bslice e size z len ps)) dst l st fr Q:=jfx rfl
theorem jo1 {e:TypeId} {size:Nat} {len:Nat} {ps:List (Nat×Nat×Od)}:WD F ((.mk dst (.a (.bslice e size z len ps)) none,none)::m) st es fr h Q=zmD F (jd9 st fr h (.bslice e size z len ps)) dst m st es fr Q:=jfy rfl
theorem jli {e:TypeId} {size:Nat} {x y:Od}:WO F (.mk dst (.a (.mkslice e size bytes z x y)) none::l) st fr h Q=zmO F (jd9 st fr h (.mkslice e size bytes z x y)) dst l st fr Q:=jfx rfl
theorem jlj {e:TypeId} {size:Nat} {x y:Od}:WD F ((.mk dst (.a (.mkslice e size bytes z x y)) none,none)::m) st es fr h Q=zmD F (jd9 st fr h (.mkslice e size bytes z x y)) dst m st es fr Q:=jfy rfl
theorem jy4 {n:Nat} {x:Od}:WO F (.mk dst (.a (.load n agg x)) none::l) st fr h Q=zmO F (jd9 st fr h (.load n agg x)) dst l st fr Q:=jfx rfl
theorem jy5 {n:Nat} {x:Od}:WD F ((.mk dst (.a (.load n agg x)) none,none)::m) st es fr h Q=zmD F (jd9 st fr h (.load n agg x)) dst m st es fr Q:=jfy rfl
theorem jtc {n:Nat} {x y:Od}:WO F (.mk dst (.a (.store n x y)) none::l) st fr h Q=zmO F (jd9 st fr h (.store n x y)) dst l st fr Q:=jfx rfl
theorem jtd {n:Nat} {x y:Od}:WD F ((.mk dst (.a (.store n x y)) none,none)::m) st es fr h Q=zmD F (jd9 st fr h (.store n x y)) dst m st es fr Q:=jfy rfl
theorem j6w {e:TypeId} {size:Nat} {x y:Od}:WO F (.mk dst (.a (.app e size bytes x y)) none::l) st fr h Q=zmO F (jd9 st fr h (.app e size bytes x y)) dst l st fr Q:=jfx rfl
theorem j6x {e:TypeId} {size:Nat} {x y:Od}:WD F ((.mk dst (.a (.app e size bytes x y)) none,none)::m) st es fr h Q=zmD F (jd9 st fr h (.app e size bytes x y)) dst m st es fr Q:=jfy rfl
theorem jy6 {size:Nat} {x y:Od}:WO F (.mk dst (.a (.copy size x y)) none::l) st fr h Q=zmO F (jd9 st fr h (.copy size x y)) dst l st fr Q:=jfx rfl
theorem jy7 {size:Nat} {x y:Od}:WD F ((.mk dst (.a (.copy size x y)) none,none)::m) st es fr h Q=zmD F (jd9 st fr h (.copy size x y)) dst m st es fr Q:=jfy rfl
theorem jte {x:Od}:WO F (.mk dst (.a (.clear z x)) none::l) st fr h Q=zmO F (jd9 st fr h (.clear z x)) dst l st fr Q:=jfx rfl
theorem jtf {x:Od}:WD F ((.mk dst (.a (.clear z x)) none,none)::m) st es fr h Q=zmD F (jd9 st fr h (.clear z x)) dst m st es fr Q:=jfy rfl
theorem jtg:WO F (.mk dst (.a (.mkmap va)) none::l) st fr h Q=zmO F (jd9 st fr h (.mkmap va)) dst l st fr Q:=jfx rfl
theorem jth:WD F ((.mk dst (.a (.mkmap va)) none,none)::m) st es fr h Q=zmD F (jd9 st fr h (.mkmap va)) dst m st es fr Q:=jfy rfl
theorem jy8 {x k:Od}:WO F (.mk dst (.a (.look sig va z okf x k)) none::l) st fr h Q=zmO F (jd9 st fr h (.look sig va z okf x k)) dst l st fr Q:=jfx rfl
theorem jy9 {x k:Od}:WD F ((.mk dst (.a (.look sig va z okf x k)) none,none)::m) st es fr h Q=zmD F (jd9 st fr h (.look sig va z okf x k)) dst m st es fr Q:=jfy rfl
theorem jza {x k y:Od}:WO F (.mk dst (.a (.mupd sig va x k y)) none::l) st fr h Q=zmO F (jd9 st fr h (.mupd sig va x k y)) dst l st fr Q:=jfx rfl
theorem jzb {x k y:Od}:WD F ((.mk dst (.a (.mupd sig va x k y)) none,none)::m) st es fr h Q=zmD F (jd9 st fr h (.mupd sig va x k y)) dst m st es fr Q:=jfy rfl
theorem jo2 {n size:Nat} {x:Od}:WO F (.mk dst (.a (.slicea n size x)) none::l) st fr h Q=zmO F (jd9 st fr h (.slicea n size x)) dst l st fr Q:=jfx rfl
theorem jo3 {n size:Nat} {x:Od}:WD F ((.mk dst (.a (.slicea n size x)) none,none)::m) st es fr h Q=zmD F (jd9 st fr h (.slicea n size x)) dst m st es fr Q:=jfy rfl
theorem jzc {size:Nat} {x:Od}:WO F (.mk dst (.a (.boxc size x)) none::l) st fr h Q=zmO F (jd9 st fr h (.boxc size x)) dst l st fr Q:=jfx rfl
theorem jzd {size:Nat} {x:Od}:WD F ((.mk dst (.a (.boxc size x)) none,none)::m) st es fr h Q=zmD F (jd9 st fr h (.boxc size x)) dst m st es fr Q:=jfy rfl
noncomputable def qwr (o:BO) (x y:Option AV):Option AV:=ob x (fun a=>ob y (fun b=>svc none a (fun a=>svc none b (fun b=>jcu o a b))))
theorem j6y {o:BO} {x y:Od}:pop st fr (.bin o x y)=qwr o (ev st fr x) (ev st fr y):=rfl
theorem jo4 {o:BO} {a b:SV}:qwr o (some (.s a)) (some (.s b))=jcu o a b:=rfl
noncomputable def quh (off:Nat) (x:Option AV):Option AV:=ob x (fun v=>je3 v (fun b o=>some (.s (.ptr b (o+off)))) (fun cs=>some (.s (.cp (jcj off cs)))))
theorem j6z {off:Nat} {x:Od}:pop st fr (.fld off x)=quh off (ev st fr x):=rfl
theorem jti {off b:Nat}:quh off (some (.s (.ptr b o)))=some (.s (.ptr b (o+off))):=rfl
theorem jze {off:Nat} {cs:List SV}:quh off (some (.s (.cp cs)))=some (.s (.cp (jcj off cs))):=rfl
noncomputable def qh9 (x:Option AV):Option AV:=ob x (fun v=>je3 v (fun b o=>some (.s (.ptr b o))) (fun cs=>some (.s (.cp cs))))
theorem jzf {x:Od}:pop st fr (.nchk x)=qh9 (ev st fr x):=rfl
theorem jo5 {b:Nat}:qh9 (some (.s (.ptr b o)))=some (.s (.ptr b o)):=rfl
theorem jtj {cs:List SV}:qh9 (some (.s (.cp cs)))=some (.s (.cp cs)):=rfl
noncomputable def qws (x:Option AV):Option AV:=ob x jxv
theorem j60 {x:Od}:pop st fr (.len x)=qws (ev st fr x):=rfl
theorem jo6:qws (some v)=jxv v:=rfl
noncomputable def qwt (size:Nat) (x y:Option AV):Option AV:=ob x (fun v=>ob y (fun w=>jwg size v w))
theorem j61 {size:Nat} {x i:Od}:pop st fr (.ixs size x i)=qwt size (ev st fr x) (ev st fr i):=rfl
theorem jo7 {size:Nat}:qwt size (some v) (some w)=jwg size v w:=rfl
noncomputable def qwu (n size:Nat) (x y:Option AV):Option AV:=ob x (fun v=>ob y (fun w=>qep n size v w))
theorem j62 {n size:Nat} {x i:Od}:pop st fr (.ixa n size x i)=qwu n size (ev st fr x) (ev st fr i):=rfl
theorem jo8 {n size:Nat}:qwu n size (some v) (some w)=qep n size v w:=rfl
noncomputable def qps (x:Option AV) (a b:Od) (st fr:List AV):Option AV:=ob x (fun v=>jii v (fun t=>ev st fr (oif t a b)))
theorem jzg {c a b:Od}:pop st fr (.pick c a b)=qps (ev st fr c) a b st fr:=rfl
theorem jlk {a b:Od}:qps (some (.s (.bool t))) a b st fr=if t=true then ev st fr a else ev st fr b:=by cases t<;>rfl
noncomputable def qwv (i:Nat) (x:Option AV):Option AV:=ob x (fun v=>AV.casesOn (motive:=fun _=>Option AV) v (fun _=>none) (fun _=>none) (fun l=>ob (jel l i) (fun p=>jf6 p.1 p.2)) none none)
theorem j63 {x:Od}:pop st fr (.ext i x)=qwv i (ev st fr x):=rfl
noncomputable def mk1 (p:Option (Bool×List SV)):Option AV:=ob p (fun p=>jf6 p.1 p.2)
theorem jtk {a:Bool} {l:List SV}:mk1 (some (a,l))=jf6 a l:=rfl
theorem jtl {l:List (Bool×List SV)}:qwv i (some (.tup l))=mk1 (jel l i):=rfl
noncomputable def ldR (h:Hp) (agg:Bool) (cs:Option (List SV)):R:=ob cs (fun cs=>ob (jf6 agg cs) (fun v=>ok v h))
theorem qia {cs:List SV}:ldR h true (some cs)=some (.agg cs,h):=rfl
theorem qib {a:SV}:ldR h false (some [a])=some (.s a,h):=rfl
noncomputable def qic (h:Hp) (n:Nat) (agg:Bool) (x:Option AV):R:=ob x (fun v=>ob (jmb h n agg v) (fun v=>ok v h))
theorem jzh {n:Nat} {x:Od}:jd9 st fr h (.load n agg x)=qic h n agg (ev st fr x):=j1b
theorem jo9 {n b:Nat}:qic h n agg (some (.s (.ptr b o)))=ldR h agg (rdB (h.get b) o n):=by
 show ob (ob (rdB (h.get b) o n) _) _=_
 rw[qh4];rfl
theorem jtm {n:Nat} {cs:List SV}:qic h n agg (some (.s (.cp cs)))=ldR h agg (jb5 n cs):=by
 show ob (ob (jb5 n cs) _) _=_
 rw[qh4];rfl
noncomputable def j64 (h:Hp) (n:Nat) (x y:Option AV):R:=ob x (fun p=>ob y (fun v=>j6q h n p v))
theorem jtn {n:Nat} {x v:Od}:jd9 st fr h (.store n x v)=j64 h n (ev st fr x) (ev st fr v):=rfl
noncomputable def stR (h:Option Hp):R:=ob h (fun h=>ok .undef h)
theorem jto:stR (some h)=some (.undef,h):=rfl
theorem jes {b:Nat} {x:SV} (k:Ok h):j64 h 1 (some (.s (.ptr b o))) (some (.s x))=stR (wrB h b (h.get b) o [x]):=qco k
theorem jc4 {n b:Nat} {cs:List SV} (k:Ok h) (hn:cs.length=n):j64 h n (some (.s (.ptr b o))) (some (.agg cs))=stR (wrB h b (h.get b) o cs):=j4b k hn
noncomputable def qww (h:Hp) (e:TypeId) (size bytes:Nat) (x y:Option AV):R:=ob x (fun v=>ob y (fun w=>jq8 h e size bytes v w))
theorem j65 {e:TypeId} {size:Nat} {x y:Od}:jd9 st fr h (.app e size bytes x y)=qww h e size bytes (ev st fr x) (ev st fr y):=rfl
theorem jpa {e:TypeId} {size:Nat}:qww h e size bytes (some v) (some w)=jq8 h e size bytes v w:=rfl
noncomputable def bsO (h:Hp) (e:TypeId) (size len:Nat) (x:Option (List SV)):R:=ob x (fun cs=>some (.s (.slice h.next 0 len len true size),h.push (.arr cs e)))
theorem jtp {e:TypeId} {size len:Nat} {cs:List SV}:bsO h e size len (some cs)=some (.s (.slice h.next 0 len len true size),h.push (.arr cs e)):=rfl
theorem jdw {e:TypeId} {size:Nat} {len:Nat} {ps:List (Nat×Nat×Od)} (k:Ok h):jd9 st fr h (.bslice e size z len ps)=bsO h e size len (fill st fr ps z):=j4c k
noncomputable def qui (h:Hp) (e:TypeId) (x:Option AV):R:=ob x (fun v=>cel v (fun cs=>some (.s (.ptr h.next 0),h.push (.arr cs e))))
theorem jjx {e:TypeId} {x:Od} (k:Ok h):jd9 st fr h (.box e x)=qui h e (ev st fr x):=qh5 k
theorem j66 {e:TypeId} {x:SV}:qui h e (some (.s x))=some (.s (.ptr h.next 0),h.push (.arr [x] e)):=rfl
theorem jtq {e:TypeId} {cs:List SV}:qui h e (some (.agg cs))=some (.s (.ptr h.next 0),h.push (.arr cs e)):=rfl
noncomputable def qwx (h:Hp) (e:TypeId) (size bytes:Nat) (z:List SV) (x y:Option AV):R:=ob x (fun v=>ob y (fun u=>qth h e size bytes z v u))
theorem jll {e:TypeId} {size:Nat} {l c:Od}:jd9 st fr h (.mkslice e size bytes z l c)=qwx h e size bytes z (ev st fr l) (ev st fr c):=rfl
theorem jpb {e:TypeId} {size:Nat}:qwx h e size bytes z (some v) (some w)=qth h e size bytes z v w:=rfl
noncomputable def re1 (h:Hp) (x:Option (Bool×List SV)):R:=ob x (fun p=>ob (jf6 p.1 p.2) (fun v=>some (v,h)))
theorem j67 {r:IR}:jb7 (.mk fr h) [r]=re1 h (jl8 fr h r):=j4d
theorem qid {a:SV}:re1 h (some (false,[a]))=some (.s a,h):=rfl
theorem qie {l:List SV}:re1 h (some (true,l))=some (.agg l,h):=rfl
noncomputable def reT (g:Option AV):Option (Bool×List SV):=ob g qxc
theorem j68:jl8 fr h (.tmp g)=reT (jel fr g):=rfl
theorem qif {x:SV}:reT (some (.s x))=some (false,[x]):=rfl
theorem jzi {x:List SV}:reT (some (.agg x))=some (true,x):=rfl
noncomputable def reC (h:Hp) (n:Nat) (agg:Bool) (g:Option AV):Option (Bool×List SV):=ob g (fun v=>jvf v (fun b off=>ob (rdB (h.get b) off n) (fun cs=>some (agg,cs))))
theorem jzj {n:Nat}:jl8 fr h (.cell g n agg)=reC h n agg (jel fr g):=rfl
noncomputable def reP (agg:Bool) (x:Option (List SV)):Option (Bool×List SV):=ob x (fun cs=>some (agg,cs))
theorem jtr {cs:List SV}:reP agg (some cs)=some (agg,cs):=rfl
theorem jzk {n b:Nat}:reC h n agg (some (.s (.ptr b o)))=reP agg (rdB (h.get b) o n):=rfl
def quj (x:R) (Q:AV->Hp->Prop):Prop:=obP x (fun p=>Q p.1 p.2)
theorem jpc {Q:AV->Hp->Prop}:quj (some (v,h)) Q=Q v h:=jce
theorem jiv {res:List IR} {Q:AV->Hp->Prop}:qbh res Q .normal s=quj (jb7 s res) Q:=rfl
theorem jts {res:List IR} {Q:AV->Hp->Prop}:qbh res Q .ret s=quj (jb7 s res) Q:=rfl
noncomputable def re2 (h:Hp) (x:Option (List (Bool×List SV))):R:=ob x (fun vs=>some (.tup vs,h))
theorem jtt {l:List (Bool×List SV)}:re2 h (some l)=some (.tup l,h):=rfl
theorem j69 {r r':IR} {k:List IR}:jb7 (.mk fr h) (r::r'::k)=re2 h (jf9 fr h (r::r'::k)):=j4e
theorem jcg {size b off len mc sz:Nat} {ex:Bool} (hm:1<len):jwg size (.s (.slice b off len mc ex sz)) (vi 1)=some (.s (.ptr b (off+size))):=by
 have:=jbg (size:=size) (b:=b) (off:=off) (len:=len) (mc:=mc) (sz:=sz) (ex:=ex) hm
 rw[Nat.one_mul] at this;exact this
theorem jdx {n size b off:Nat} (hm:0<n):qep n size (.s (.ptr b off)) (vi 0)=some (.s (.ptr b off)):=by
 have:=jcs (n:=n) (size:=size) (b:=b) (off:=off) hm
 rw[f2s,f0u] at this;exact this
theorem jdy {n size b off:Nat} (hm:1<n):qep n size (.s (.ptr b off)) (vi 1)=some (.s (.ptr b (off+size))):=by
 have:=jcs (n:=n) (size:=size) (b:=b) (off:=off) hm
 rw[Nat.one_mul] at this;exact this
theorem jet {n size:Nat} {cs:List SV} (hm:0<n):qep n size (.s (.cp cs)) (vi 0)=some (.s (.cp cs)):=by
 have:=jfa (n:=n) (size:=size) (cs:=cs) hm
 rw[f2s] at this;exact this
theorem jeu {n size:Nat} {cs:List SV} (hm:1<n):qep n size (.s (.cp cs)) (vi 1)=some (.s (.cp (jcj size cs))):=by
 have:=jfa (n:=n) (size:=size) (cs:=cs) hm
 rw[Nat.one_mul] at this;exact this
theorem jjy (k:Ok h):h.hid=[]:=k.hid
noncomputable def mkL (agg:Bool) (x:Option (List SV)):Option AV:=ob x (fun cs=>jf6 agg cs)
theorem qig {cs:List SV}:mkL true (some cs)=some (.agg cs):=rfl
theorem qih {a:SV}:mkL false (some [a])=some (.s a):=rfl
theorem j7a {n b:Nat}:jmb h n agg (.s (.ptr b o))=mkL agg (rdB (h.get b) o n):=rfl
theorem qii {n:Nat} {cs:List SV}:jmb h n agg (.s (.cp cs))=mkL agg (jb5 n cs):=rfl
theorem qij {a b:Int} (h1:0<=a) (h3:0<b):0<=a % b/\a % b<=a:=by
 have h2:=Int.emod_add_mul_ediv a b
 have h:=Int.ediv_nonneg h1 (Int.le_of_lt h3)
 have h4:=Int.mul_nonneg (Int.le_of_lt h3) h
 exact⟨Int.emod_nonneg a (by omega),by omega⟩
theorem jea {a b:Int} (h1:0<=a) (h2:a<=9223372036854775807) (h3:0<b):jcu .rem (.int .i64 a) (.int .i64 b)=some (vi (a % b)):=by
 have:=qij h1 h3
 rw[jyv,if_neg (by omega),f25 h1,jh1 (by omega) (by omega)]
theorem j7b {a b:Int} (h1:-9223372036854775808<=a) (h2:a<=9223372036854775807) (h3:0<b):-9223372036854775808<=a.tdiv b/\a.tdiv b<=9223372036854775807:=by
 have h:=Int.natAbs_tdiv_le_natAbs a b
 rcases(by omega:a<0∨0<=a) with h4 | h4
 ·have h5:a.tdiv b<=0:=by
   obtain⟨c,rfl⟩:∃ c,a=-c:=⟨-a,by omega⟩
   rw[Int.neg_tdiv]
   have:=Int.tdiv_nonneg (a:=c) (b:=b) (by omega) (Int.le_of_lt h3)
   omega
  omega
 ·omega
theorem jfc {a b:Int} (h1:-9223372036854775808<=a) (h2:a<=9223372036854775807) (h3:0<b):jcu .quo (.int .i64 a) (.int .i64 b)=some (vi (a.tdiv b)):=by
 have:=j7b h1 h2 h3
 rw[qh1,if_neg (by omega),jh1 this.1 this.2]
theorem jiw {a n:Int} {k:IntKind} (h1:0<=n) (h2:n<=63):jcu .shr (.int .i64 a) (.int k n)=some (vi (a / 2 ^ n.toNat)):=by
 obtain⟨m,rfl⟩:=Int.eq_ofNat_of_zero_le h1
 exact qh2 (by omega)
theorem jev {a n:Nat}:(a=a+(n+1))=False:=eq_false (by omega)
theorem jew {a n:Nat}:(a+(n+1)=a)=False:=eq_false (by omega)
theorem jex {e:TypeId} {x:SV} (ok:Ok h) (h1:bytes<=1000):qth h e 1 bytes [x] (vi 2) (vi 2)=some (.s (.slice h.next 0 2 2 true 1),h.push (.arr [x,x] e)) :=
 jsw (m:=2) ok (by omega) (by omega)
theorem ji5 {a b:Nat} (h:a≠b):(a=b)=False:=eq_false h
theorem jdp {a b:Nat} (h:b<a):(a<=b)=False:=eq_false (by omega)
theorem jdq {a b:Nat} (h:b<=a):(a<b)=False:=eq_false (by omega)
theorem ji6 {a b:Nat} (h:a<=b):(a<=b)=True:=eq_true h
theorem ji7 {a b:Nat} (h:a<b):(a<b)=True:=eq_true h
theorem qxe {a b:Int} (h:a<=b):(a<=b)=True:=eq_true h
theorem qxf {a b:Int} (h:a<b):(a<b)=True:=eq_true h
def qik (F:Fns) (dst:Option Nat) (m:List (IOper×Option (List Nat))) (st:List AV) (es:List Ent) (fr:List AV) (h:Hp) (Q:Ex->St->Prop) (v:AV) (h':Hp):Prop:=WD F m (v::st) (.mk [(h.next,h'.next)] none::es) (jc0 fr dst v) (.mk h'.next h'.tr h.lo h.hid) Q
def zkH (F:Fns) (x:Option (List (Nat×Nat))) (vs:Option (List AV)) (f:FuncId) (dst:Option Nat) (m:List (IOper×Option (List Nat))) (st:List AV) (es:List Ent) (fr:List AV) (h:Hp) (Q:Ex->St->Prop):Prop:=obP x (fun hid'=>obP vs (fun vs=>WC F f vs (h.hide h.next hid') (qik F dst m st es fr h Q)))
theorem jtu {x:List (Nat×Nat)} {f:FuncId}:zkH F (some x) (some vs) f dst m st es fr h Q=WC F f vs (h.hide h.next x) (qik F dst m st es fr h Q):=by
 unfold zkH;rw[jce,jce]
theorem jlm {x:List (Nat×Nat)}:qik F dst m st es fr h Q v (h.hide lo x)=WD F m (v::st) (.mk [(h.next,h.next)] none::es) (jc0 fr dst v) h Q:=by cases h;rfl
theorem jgu {f:FuncId} {as:List Od}:WD F ((.mk dst (.a (.call f as)) none,some js)::m) st es fr h Q=zkH F (sel es js h.hid) (evs st fr as) f dst m st es fr h Q:=by
 cases h with
 | mk k t lo hid =>
 rw[jn9]
 have key:∀ n v h' e,jxt (jbq F (run F n)) st fr es (.mk k t lo hid) (.a (.call f as)) none (some js)=some (.mk v h' e)↔∃ x vs h1,sel es js hid=some x/\evs st fr as=some vs/\jbq F (run F n) f vs (.mk k t k x)=some (v,h1)/\h'=.mk h1.next h1.tr lo hid/\e=.mk [(k,h1.next)] none:=fun n v h' e=>by
  have e0:jxt (jbq F (run F n)) st fr es (.mk k t lo hid) (.a (.call f as)) none (some js)=ob (sel es js hid) (fun x=>ob (ob (evs st fr as) (fun vs=>jbq F (run F n) f vs (.mk k t k x))) (fun p=>Hp.casesOn (motive:=fun _=>Option DR) p.2 (fun n' t' _ _=>some (.mk p.1 (.mk n' t' lo hid) (.mk [(k,n')] none))))):=rfl
  rw[e0]
  constructor
  ·intro h1
   obtain⟨x,hx,h2⟩:=jac.1 h1
   obtain⟨p,hp,h3⟩:=jac.1 h2
   obtain⟨vs,hvs,h4⟩:=jac.1 hp
   obtain⟨v1,⟨n1,t1,l1,d1⟩⟩:=p
   cases h3
   exact⟨x,vs,_,hx,hvs,h4,rfl,rfl⟩
  ·rintro⟨x,vs,⟨n1,t1,l1,d1⟩,hx,hvs,h4,rfl,rfl⟩
   exact jac.2 ⟨x,hx,jac.2 ⟨(v,.mk n1 t1 l1 d1),jac.2 ⟨vs,hvs,h4⟩,rfl⟩⟩
 refine propext ⟨fun⟨n,v,h',e,h1,h2⟩=>?_,fun⟨x,hx,vs,hvs,n,v,h1,h2,h3⟩=>⟨n,v,_,_,(key n v _ _).2 ⟨x,vs,h1,hx,hvs,h2,rfl,rfl⟩,h3⟩⟩
 obtain⟨x,vs,h3,hx,hvs,h4,rfl,rfl⟩:=(key n v h' e).1 h1
 exact⟨x,hx,vs,hvs,n,v,h3,h4,h2⟩
theorem jdf {a:Nat} {n:Nat}:((a:Int) / 2 ^ n)=((a / 2 ^ n:Nat):Int):=by
 rw[Int.natCast_ediv,f3l];rfl
theorem jdg:(4+(i:Int)).toNat=4+i:=by omega
theorem jdh:(9+(i:Int)).toNat=9+i:=by omega
theorem jdi:(i:Int).toNat=i:=by omega
theorem jix {a:Nat}:decide ((a:Int) % 2=1)=decide (a % 2=1):=decide_eq_decide.2 (by omega)
theorem jfd {a:Nat}:(a:Int).tdiv 4=((a / 4:Nat):Int):=rfl
theorem jfe {a:Nat}:(a:Int).tdiv 5=((a / 5:Nat):Int):=rfl
theorem jgh {x:Option AB} {off sz:Nat} {c:SV} (hr:rdB x off sz=some row) (hj:row[j]?=some c):rdB x (off+j) 1=some [c]:=by
 cases x with
 | none=>cases hr
 | some x =>
  cases x with
  | map va es=>cases hr
  | arr cs ty =>
   rw[je9,jb4] at hr ⊢
   obtain⟨h1,rfl⟩:=(jbc _).1 hr
   have hjs:j<sz:=by
    rcases f0k j sz with h | h
    ·exact h
    ·rw[f0p (by simp;omega)] at hj;cases hj
   have hj2:cs[off+j]?=some c:=by
    rw[f2l,if_pos hjs,f1u] at hj;exact hj
   have hl:off+j<cs.length:=by
    rcases f0k (off+j) cs.length with h | h
    ·exact h
    ·rw[f0p h] at hj2;cases hj2
   refine(jbc _).2 ⟨by simp;omega,?_⟩
   have e:cs.drop (off+j)=c::cs.drop (off+j+1):=by
    rw[f1e hl]
    rw[f0a hl] at hj2
    rw[Option.some.inj hj2]
   rw[e];rfl
noncomputable def mmV (mx:Bool) (x y:Option AV):Option AV:=ob x (fun a=>ob y (fun b=>jmh a (fun k m=>jmh b (fun k' n=>oif (Nat.beq (ikn k) (ikn k')) (some (.s (.int k (oif (ile m n) (oif mx n m) (oif mx m n))))) none))))
theorem qil {mx:Bool} {x y:Od}:pop st fr (.mm mx x y)=mmV mx (ev st fr x) (ev st fr y):=rfl
theorem jzl {a b:Int}:mmV false (some (.s (.int .i64 a))) (some (.s (.int .i64 b)))=some (vi (if a<=b then a else b)):=by
 show some (AV.s (.int .i64 (oif (ile a b) a b)))=_
 rw[jaw,jen];simp only[decide_eq_true_eq]
theorem jzm {a b:Int}:mmV true (some (.s (.int .i64 a))) (some (.s (.int .i64 b)))=some (vi (if a<=b then b else a)):=by
 show some (AV.s (.int .i64 (oif (ile a b) b a)))=_
 rw[jaw,jen];simp only[decide_eq_true_eq]
end
attribute [go_sem] jgu jtu jlm j58 qht j59 qcg jyk jyz js4 jsj j6a j6b jy0 jsz jy1 js2 js1 js5 js3 jou js0 j6d jy2 js6 js7 jy3 js9 js8 jtb jta jov jhk jow jhl jox jf2 joz joy jfw jk5 jn5 jip jn6 jsi jhh jk6 jn7 j6s j6u jo0 jli jy4 jtc j6w jy6 jte jtg jy8 jza jo2 jzc j6t j6v jo1 jlj jy5 jtd j6x jy7 jtf jth jy9 jzb jo3 jzd qua qub quc jyl jsk jod joe jof jog joh joi jir jis qud que jbe qhz joj jsl jk8 jsm jk9 qh0 jym j6f j6g j6h jsn jla jlb jh0 jlc jok jso jol jom jld jhi jdm jon jyn jyo qil jzl jzm j6i jzg jlk joo jsp jop j6y jo4 jyp jyq j6z jti jze jsq j63 jtl jtk jzf jo5 jtj jsr jjv jss joq jle jit jor jst jsu j60 jo6 jsv jjw jlf jos jys jyt jyu jfc jea jiw j6k j6l j6m j6n j6o j6p j61 jo7 j62 jo8 j67 qid qie j68 qif jzi jzj jtr jzk jpc jiv jts jlg jfb jlh j69 jtt qcp je9 jot jzh jo9 jtm qia qib jtn jto jll jpb j65 jpa jtp j66 jtq jyy j6r jyx jsy jaa jiu j7a qii qig qih jev jew jcg jcs jfa jdx jdy jet jeu jjy jer jdw jjx jgt jes jc4 jav jam jex jcf jbg
end Go.Proofs.Ytehhjbfmjdlcjaa.Ev
