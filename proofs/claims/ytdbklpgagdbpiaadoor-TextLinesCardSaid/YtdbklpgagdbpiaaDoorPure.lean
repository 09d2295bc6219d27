/- What an abstract value, an abstract heap say of the model's values and memory; and the interpreter's small steps in plain words. No program in sight. -/
import Derived.Test.YtdbklpgagdbpiaaDoorComp
namespace Go.Proofs.YtdbklpgagdbpiaaDoor.Ev
open Go
set_option linter.all false
variable {g:Bool} {n:Int} {l:List SV} {x:SV}
section
variable {α β:Type}
theorem jaa {x:Option α} {f:α->Option β} {r:β}:ob x f=some r↔∃ a,x=some a/\f a=some r:=by
 cases x<;>simp[ob]
theorem jsb {α:Sort _} (b:Bool) (x y:α):Bool.rec (motive:=fun _=>α) y x b=if b then x else y:=by cases b<;>rfl
theorem jap (b:Bool) (x y:α):oif b x y=if b then x else y:=by cases b<;>rfl
theorem jab {b:Bool} {x:Option α} {r:α}:oif b x none=some r↔b=true/\x=some r:=by
 cases b<;>simp[oif]
theorem jcl (l:List α):∀ i,jec l i=l[i]?:=by
 induction l with
 | nil=>intro i;rfl
 | cons a l ih=>intro i;cases i with
  | zero=>rfl
  | succ j=>exact(ih j).trans (by simp)
theorem jgj (l:List α):∀ i x,jr8 l i x=l.set i x:=by
 induction l with
 | nil=>intro i x;rfl
 | cons a l ih=>intro i x;cases i with
  | zero=>rfl
  | succ j=>exact congrArg (a::·) (ih j x)
theorem jb8 (n:Nat):∀ l:List α,jb4 n l=l.drop n:=by
 induction n with
 | zero=>intro l;rfl
 | succ n ih=>intro l;cases l with
  | nil=>rfl
  | cons a l=>exact ih l
theorem ja5 (n:Nat):∀ {l r:List α},jbp n l=some r↔n<=l.length/\r=l.take n:=by
 induction n with
 | zero=>intro l r;exact⟨fun h=>⟨f14 _,(Option.some.inj h).symm⟩,fun h=>congrArg some h.2.symm⟩
 | succ n ih=>intro l r;cases l with
  | nil=>simp[jbp]
  | cons a l =>
   have:jbp (n+1) (a::l)=ob (jbp n l) (fun x=>some (a::x)):=rfl
   rw[this,jaa]
   constructor
   .rintro ⟨x,hx,hr⟩
    obtain⟨h1,rfl⟩:=(ih (r:=x)).1 hx
    simp at hr
    exact⟨by simpa using h1,by simp[hr]⟩
   .rintro ⟨h1,rfl⟩
    exact⟨l.take n,ih.2 ⟨by simpa using h1,rfl⟩,by simp⟩
theorem jc8 (l r:List α):jgp l r=l++r:=by
 induction l with
 | nil=>rfl
 | cons a l ih=>exact congrArg (a::·) ih
theorem ja7 (l:List α):jb2 l=l.length:=by
 induction l with
 | nil=>rfl
 | cons a l ih=>exact congrArg Nat.succ ih
theorem j4u (xs:List α):∀ {l r:List α},jor xs l=some r↔xs.length<=l.length/\r=xs++l.drop xs.length:=by
 induction xs with
 | nil=>intro l r;simp[jor,eq_comm]
 | cons x xs ih=>intro l r;cases l with
  | nil=>simp[jor]
  | cons a l =>
   have:jor (x::xs) (a::l)=ob (jor xs l) (fun y=>some (x::y)):=rfl
   rw[this,jaa]
   constructor
   .rintro ⟨y,hy,hr⟩
    obtain⟨h1,rfl⟩:=(ih (r:=y)).1 hy
    simp at hr
    exact⟨by simpa using h1,by simp[hr]⟩
   .rintro ⟨h1,rfl⟩
    exact⟨_,ih.2 ⟨by simpa using h1,rfl⟩,by simp⟩
theorem jf7 (n:Nat):∀ {xs l r:List α},jbv n xs l=some r↔n+xs.length<=l.length/\r=l.take n++(xs++l.drop (n+xs.length)):=by
 induction n with
 | zero=>intro xs l r;exact(j4u xs).trans (by simp)
 | succ n ih=>intro xs l r;cases l with
  | nil=>simp[jbv]
  | cons a l =>
   have:jbv (n+1) xs (a::l)=ob (jbv n xs l) (fun y=>some (a::y)):=rfl
   rw[this,jaa]
   constructor
   .rintro ⟨y,hy,hr⟩
    obtain⟨h1,rfl⟩:=(ih (r:=y)).1 hy
    simp at hr
    exact⟨by simp;omega,by rw[←hr];simp[Nat.add_right_comm]⟩
   .rintro ⟨h1,rfl⟩
    simp at h1
    exact⟨_,ih.2 ⟨by omega,rfl⟩,by simp[Nat.add_right_comm]⟩
theorem jti (l:List SV):∀ n,(rep l n).length=n*l.length
 | 0=>by rw[f16];rfl
 | n+1=>by
  have:rep l (n+1)=jgp l (rep l n):=rfl
  rw[this,jc8,f0k,jti l n,f27,Nat.add_comm]
theorem j6p (l:List SV):∀ n i,i<n*l.length->(rep l n)[i]?=l[i % l.length]?
 | 0,i,h=>by simp at h
 | n+1,i,h=>by
  have:rep l (n+1)=l++rep l n:=jc8 _ _
  rw[this,f2s]
  split
  .rename_i h1;rw[f3h h1]
  .rename_i h1
   rw[j6p l n _ (by rw[f27] at h;omega),←Nat.mod_eq_sub_mod (by omega)]
end
theorem jgt (a b:Nat):(Nat.beq a b=true)=(a=b):=propext ⟨f0i,fun h=>h▸f1l a⟩
theorem jtj (a b:Nat):(Nat.ble a b=true)=(a<=b):=Nat.ble_eq
theorem jc0 (a b:Int):ieq a b=decide (a=b):=by
 rw[f1z]
 cases a<;>cases b<;>simp[ieq]<;>omega
theorem jd2 (a b:Int):ile a b=decide (a<=b):=by
 rw[f1z]
 cases a<;>cases b<;>simp[ile]<;>omega
theorem jtk (a b:Int):qey a b=a+b:=by
 cases a<;>cases b<;>rfl
theorem jgk (b:Bool):jhd b = !b:=by cases b<;>rfl
theorem jlz {k k':IntKind} (h:Nat.beq (ikn k) (ikn k')=true):k=k':=by
 cases k<;>cases k'<;>first | rfl | exact absurd h (by decide)
theorem jfh {k:IntKind} (h:jos k=true):k=.i64:=by
 cases k<;>first | rfl | exact absurd h (by decide)
theorem j6q {k:IntKind} (h:qon k=true):k=.u64:=by
 cases k<;>first | rfl | exact absurd h (by decide)
theorem qhu {a b:BO} (h:Nat.beq (boN a) (boN b)=true):a=b:=by
 cases a<;>cases b<;>first | rfl | exact absurd h (by decide)
theorem jl0:∀ a b,j59 a b=true->a=b:=by
 intro a
 induction a with
 | arg i=>intro b h;cases b<;>simp[j59] at h;rw[h]
 | lit n=>intro b h;cases b<;>simp[j59,jc0] at h;rw[h]
 | op o x y ihx ihy =>
  intro b h
  cases b with
  | op o' x' y' =>
   have h':oif (Nat.beq (boN o) (boN o')) (oif (j59 x x') (j59 y y') false) false=true:=h
   simp only[jap] at h'
   split at h'
   .rename_i h1
    split at h'
    .rename_i h2;rw[qhu h1,ihx _ h2,ihy _ h']
    .cases h'
   .cases h'
  | _=>simp[j59] at h
 | bnd i m =>
  intro b h
  cases b with
  | bnd j n =>
   have h':oif (Nat.beq i j) (Nat.beq m n) false=true:=h
   rw[jap] at h'
   split at h'
   .rename_i h1;rw[jgt] at h1 h';rw[h1,h']
   .cases h'
  | _=>simp[j59] at h
theorem jdt {k:IntKind} (h:inR k n=true):(k=.i64/\-9223372036854775808<=n/\n<=9223372036854775807)∨(k=.u8/\0<=n/\n<=255)∨(k=.u64/\0<=n/\n<=18446744073709551615):=by
 cases k
 case i64 =>
  refine .inl ⟨rfl,?_⟩
  cases n with
  | ofNat m=>have h':Nat.ble m 9223372036854775807=true:=h;rw[jtj] at h';simp;omega
  | negSucc m=>have h':Nat.ble m 9223372036854775807=true:=h;rw[jtj] at h';omega
 case u8 =>
  refine .inr (.inl ⟨rfl,?_⟩)
  cases n with
  | ofNat m=>have h':Nat.ble m 255=true:=h;rw[jtj] at h';simp;omega
  | negSucc m=>exact Bool.noConfusion h
 case u64 =>
  refine .inr (.inr ⟨rfl,?_⟩)
  cases n with
  | ofNat m=>have h':Nat.ble m 18446744073709551615=true:=h;rw[jtj] at h';simp;omega
  | negSucc m=>exact Bool.noConfusion h
 all_goals exact absurd h (by cases n<;>exact fun h=>Bool.noConfusion h)
theorem jkd {k:IntKind} (h:inR k n=true):k.wrap n=n:=by
 rcases jdt h with⟨rfl,h1,h2⟩ | ⟨rfl,h1,h2⟩ | ⟨rfl,h1,h2⟩<;>simp[IntKind.wrap,IntKind.bits,IntKind.signed]<;>omega
inductive All2 {α β:Type} (R:α->β->Prop):List α->List β->Prop where
 | nil:All2 R [] []
 | cons {a:α} {b:β} {l:List α} {r:List β}:R a b->All2 R l r->All2 R (a::l) (b::r)
namespace All2
variable {α β:Type} {R S:α->β->Prop}
theorem len {l:List α} {r:List β} (h:All2 R l r):l.length=r.length:=by
 induction h with
 | nil=>rfl
 | cons _ _ ih=>simp[ih]
theorem get {l:List α} {r:List β} (h:All2 R l r):∀ (i:Nat) (a:α),l[i]?=some a->∃ b,r[i]?=some b/\R a b:=by
 induction h with
 | nil=>intro i a h;simp at h
 | cons hab _ ih =>
  intro i a h
  cases i with
  | zero=>simp at h;subst h;exact⟨_,rfl,hab⟩
  | succ i=>exact ih i a (by simpa using h)
theorem of_get:∀ {l:List α} {r:List β},l.length=r.length->(∀ (i:Nat) a b,l[i]?=some a->r[i]?=some b->R a b)->All2 R l r
 | [],[],_,_=>.nil
 | a::l,b::r,h,k=>.cons (k 0 a b rfl rfl) (of_get (by simpa using h) (fun i x y hx hy=>k (i+1) x y (by simpa using hx) (by simpa using hy)))
theorem append {l:List α} {r:List β} {l':List α} {r':List β} (h:All2 R l r) (k:All2 R l' r'):All2 R (l++l') (r++r'):=by
 induction h with
 | nil=>exact k
 | cons a _ ih=>exact .cons a ih
theorem take {l:List α} {r:List β} (h:All2 R l r):∀ n,All2 R (l.take n) (r.take n):=by
 induction h with
 | nil=>intro n;simp;exact .nil
 | cons a _ ih=>intro n;cases n with
  | zero=>simp;exact .nil
  | succ n=>simp;exact .cons a (ih n)
theorem drop {l:List α} {r:List β} (h:All2 R l r):∀ n,All2 R (l.drop n) (r.drop n):=by
 induction h with
 | nil=>intro n;simp;exact .nil
 | cons a t ih=>intro n;cases n with
  | zero=>simp;exact .cons a t
  | succ n=>simp;exact ih n
theorem mono (h:∀ a b,R a b->S a b) {l:List α} {r:List β} (k:All2 R l r):All2 S l r:=by
 induction k with
 | nil=>exact .nil
 | cons a _ ih=>exact .cons (h _ _ a) ih
end All2
structure Lc where
 b:Nat
 o:Nat
 lim:Nat
structure Phi where
 m:Nat->Option Lc
 k:Nat->Option (Array Value)
 g:GK k
instance:CoeFun Phi (fun _=>Nat->Option Lc):=⟨Phi.m⟩
def den (A:Nat->Int):Sx->Int
 | .arg i=>A i
 | .lit n=>n
 | .op o a b=>match o with
  | .add=>IntKind.i64.wrap (den A a+den A b)
  | .sub=>IntKind.i64.wrap (den A a - den A b)
  | .mul=>IntKind.i64.wrap (den A a*den A b)
  | .quo=>IntKind.i64.wrap ((den A a).tdiv (den A b))
  | .rem=>(den A a).tmod (den A b)
  | _=>0
 | .bnd i m=>if 0<=A i/\A i<=(m:Int) then A i else 0
inductive cD (A:Nat->Int) (k:Nat->Option (Array Value)):SV->Value->Prop where
 | bool (b:Bool):cD A k (.bool b) (.bool b)
 | int (q:IntKind) (n:Int):cD A k (.int q n) (.int q n)
 | sym (e:Sx):cD A k (.sym e) (.int .i64 (den A e))
 | nilPtr:cD A k .nilPtr (.pointer none)
 | nilSlice:cD A k .nilSlice (.slice none 0 0)
 | nilFunc:cD A k .nilFunc .nilFunc
 | nilMap:cD A k .nilMap (.map none)
 | ifc0:cD A k (.ifc false) .nilIface
 | ifc1 (t:TypeId) (p:Value):cD A k (.ifc true) (.iface t p)
 | str (l:List UInt8):cD A k (.str l) (.string ⟨l.toArray⟩)
 | lst0 (ad:Addr) (cap:Nat):cD A k (.lst []) (.slice (some ad) 0 cap)
 | lst (rows:List (List SV)) (b o cap sz:Nat) (cs:Array Value) (g:Nat->Nat->Value):k b=some cs->rows.length<=cap->(∀ (i:Nat) (row:List SV),rows[i]?=some row->row.length=sz) ->
  (∀ (i j:Nat) (row:List SV) (x:SV),rows[i]?=some row->row[j]?=some x->cs[o+i*sz+j]?=some (g i j))->(∀ (i j:Nat) (row:List SV) (x:SV),rows[i]?=some row->row[j]?=some x->cD A k x (g i j))->cD A k (.lst rows) (.slice (some ⟨b,o,none⟩) rows.length cap)
def jnf (φ:Phi) (n i:Nat) (v:Value):Prop:=∃ L,φ n=some L/\v=.pointer (some ⟨L.b,L.o+i,none⟩)
def qhv (b:Bool) (v:Value):Prop:=(b=true/\∃ t p,v=.iface t p)∨(b=false/\v=.nilIface)
def cS (A:Nat->Int) (φ:Phi):SV->Value->Prop
 | .bool b,v=>v=.bool b
 | .int k n,v=>v=.int k n
 | .sym e,v=>v=.int .i64 (den A e)
 | .ptr n i,v=>jnf φ n i v
 | .nilPtr,v=>v=.pointer none
 | .slice n i len mc ex sz,v=>∃ L ad cap,φ n=some L/\v=.slice (some ad) len cap/\mc<=cap/\len<=mc/\(ex=true->cap=mc)/\((ad=⟨L.b,L.o+i,none⟩/\L.o+i+cap*sz<=L.lim)∨cap=0)
 | .nilSlice,v=>v=.slice none 0 0
 | .func f caps,v=>∃ vs:List Value,v=.func (.func f) #[] vs.toArray/\All2 (fun p x=>jnf φ p.1 p.2 x) caps vs
 | .nilFunc,v=>v=.nilFunc
 | .nilMap,v=>v=.map none
 | .map n,v=>∃ L,φ n=some L/\v=.map (some L.b)
 | .str l,v=>v=.string ⟨l.toArray⟩
 | .lst rows,v=>cD A φ.k (.lst rows) v
 | .cp cells,v=>∃ b o cs,φ.k b=some cs/\v=.pointer (some ⟨b,o,none⟩)/\∀ (j:Nat) (x:SV),cells[j]?=some x->∃ u,cs[o+j]?=some u/\cD A φ.k x u
 | .emp,v=>∃ ad,v=.slice (some ad) 0 0
 | .ifc b,v=>qhv b v
def cV1 (A:Nat->Int) (φ:Phi) (agg:Bool) (cs:List SV) (v:Value):Prop :=
 if agg then ∃ vs:List Value,v=.agg vs.toArray/\All2 (cS A φ) cs vs else ∃ x,cs=[x]/\cS A φ x v
def cV (A:Nat->Int) (φ:Phi):AV->Value->Prop
 | .s x,v=>cS A φ x v
 | .agg l,v=>∃ vs:List Value,v=.agg vs.toArray/\All2 (cS A φ) l vs
 | .tup l,v=>∃ vs:List Value,v=.tuple vs.toArray/\All2 (fun p x=>cV1 A φ p.1 p.2 x) l vs
 | .undef,v=>v=Go.undef
 | .any,_=>True
structure Phi.le (φ ψ:Phi):Prop where
 nm:∀ n L,φ n=some L->ψ n=some L
 con:∀ b cs,φ.k b=some cs->ψ.k b=some cs
theorem Phi.le_refl (φ:Phi):φ.le φ:=⟨fun _ _ h=>h,fun _ _ h=>h⟩
theorem cD.mono {A:Nat->Int} {k k':Nat->Option (Array Value)} (h:∀ b cs,k b=some cs->k' b=some cs) {v:Value} (d:cD A k x v):cD A k' x v:=by
 induction d with
 | bool b=>exact .bool b
 | int q n=>exact .int q n
 | sym e=>exact .sym e
 | nilPtr=>exact .nilPtr
 | nilSlice=>exact .nilSlice
 | nilFunc=>exact .nilFunc
 | nilMap=>exact .nilMap
 | str l=>exact .str l
 | ifc0=>exact .ifc0
 | ifc1 t p=>exact .ifc1 t p
 | lst0 ad cap=>exact .lst0 ad cap
 | lst rows b o cap sz cs g h1 h2 h3 h4 h5 ih=>exact .lst rows b o cap sz cs g (h _ _ h1) h2 h3 h4 ih
section
variable {A:Nat->Int} {φ ψ:Phi}
theorem jnf.mono (h:φ.le ψ) {n i:Nat} {v:Value} (k:jnf φ n i v):jnf ψ n i v :=
 let ⟨L,e,r⟩:=k;⟨L,h.nm _ _ e,r⟩
theorem cS.mono (h:φ.le ψ) {v:Value} (k:cS A φ x v):cS A ψ x v:=by
 cases x with
 | ptr n i=>exact jnf.mono h k
 | slice n i len mc ex sz =>
  obtain⟨L,ad,cap,e,r⟩:=k
  exact⟨L,ad,cap,h.nm _ _ e,r⟩
 | func f caps =>
  obtain⟨vs,e,r⟩:=k
  exact⟨vs,e,r.mono (fun _ _=>jnf.mono h)⟩
 | map n=>obtain⟨L,e,r⟩:=k;exact⟨L,h.nm _ _ e,r⟩
 | lst rows=>exact cD.mono h.con k
 | cp cells =>
  obtain⟨b,o,cs,e,r,q⟩:=k
  exact⟨b,o,cs,h.con _ _ e,r,fun j x hx=>let ⟨u,a,d⟩:=q j x hx;⟨u,a,d.mono h.con⟩⟩
 | _=>exact k
theorem cD.toS {v:Value} (d:cD A φ.k x v):cS A φ x v:=by
 cases d with
 | lst0 ad cap=>exact .lst0 ad cap
 | lst rows b o cap sz cs g h1 h2 h3 h4 h5=>exact .lst rows b o cap sz cs g h1 h2 h3 h4 h5
 | ifc0=>exact .inr ⟨rfl,rfl⟩
 | ifc1 t p=>exact .inl ⟨rfl,t,p,rfl⟩
 | _=>rfl
theorem cS.toD {v:Value} (k:cS A φ x v) (h:grd x=true):cD A φ.k x v:=by
 cases x with
 | bool b=>cases k;exact .bool b
 | int q n=>cases k;exact .int q n
 | sym e=>cases k;exact .sym e
 | nilPtr=>cases k;exact .nilPtr
 | nilSlice=>cases k;exact .nilSlice
 | nilFunc=>cases k;exact .nilFunc
 | nilMap=>cases k;exact .nilMap
 | str l=>cases k;exact .str l
 | lst rows=>exact k
 | _=>cases h
theorem jtl:∀ {l:List SV},jy8 l=true->∀ x∈l,grd x=true
 | [],_,x,hx=>by simp at hx
 | a::l,h,x,hx=>by
  have h':oif (grd a) (jy8 l) false=true:=h
  rw[jap] at h'
  split at h'
  .rename_i h1
   rcases f0j.1 hx with rfl | h2
   .exact h1
   .exact jtl h' x h2
  .cases h'
theorem cV1.mono (h:φ.le ψ) {v:Value} (k:cV1 A φ g l v):cV1 A ψ g l v:=by
 unfold cV1 at *
 split
 .rename_i hp;rw[if_pos hp] at k;obtain⟨ws,e,r⟩:=k;exact⟨ws,e,r.mono (fun _ _=>cS.mono h)⟩
 .rename_i hp;rw[if_neg hp] at k;obtain⟨y,e,r⟩:=k;exact⟨y,e,cS.mono h r⟩
theorem cV.mono (h:φ.le ψ) {x:AV} {v:Value} (k:cV A φ x v):cV A ψ x v:=by
 cases x with
 | s x=>exact cS.mono h k
 | agg l=>obtain⟨vs,e,r⟩:=k;exact⟨vs,e,r.mono (fun _ _=>cS.mono h)⟩
 | tup l =>
  obtain⟨vs,e,r⟩:=k
  exact⟨vs,e,r.mono (fun p x hx=>cV1.mono h hx)⟩
 | undef=>exact k
 | any=>exact k
theorem cS.one {v:Value} (k:cS A φ x v):v.oneCell'=true/\v.cells=#[v]:=by
 cases x with
 | ptr n i=>obtain⟨L,_,rfl⟩:=k;exact⟨rfl,rfl⟩
 | slice n i len mc ex sz=>obtain⟨L,ad,cap,_,rfl,_⟩:=k;exact⟨rfl,rfl⟩
 | func f caps=>obtain⟨vs,rfl,_⟩:=k;exact⟨rfl,rfl⟩
 | map n=>obtain⟨L,_,rfl⟩:=k;exact⟨rfl,rfl⟩
 | lst rows =>
  have k':cD A φ.k (.lst rows) v:=k
  cases k'<;>exact⟨rfl,rfl⟩
 | cp cells=>obtain⟨b,o,cs,_,rfl,_⟩:=k;exact⟨rfl,rfl⟩
 | emp=>obtain⟨ad,rfl⟩:=k;exact⟨rfl,rfl⟩
 | ifc b=>rcases k with⟨_,t,p,rfl⟩ | ⟨_,rfl⟩<;>exact⟨rfl,rfl⟩
 | _=>cases k;exact⟨rfl,rfl⟩
theorem cV1.cells {v:Value} (k:cV1 A φ g l v):All2 (cS A φ) l v.cells.toList:=by
 unfold cV1 at k
 split at k
 .obtain ⟨vs,rfl,r⟩:=k;simpa[Value.cells] using r
 .obtain ⟨y,rfl,r⟩:=k;rw[r.one.2];exact .cons r .nil
theorem cV.cells {x:AV} {v:Value} {β:Type} {f:List SV->Option β} {r:β} (k:cV A φ x v) (h:cel x f=some r) :
 ∃ cs,f cs=some r/\All2 (cS A φ) cs v.cells.toList:=by
 cases x with
 | s x =>
  have k':cS A φ x v:=k
  exact⟨[x],h,by rw[k'.one.2];exact .cons k' .nil⟩
 | agg l=>obtain⟨vs,rfl,r⟩:=k;exact⟨l,h,by simpa[Value.cells] using r⟩
 | _=>cases h
theorem jgu {cs:List SV} {x:AV} (h:jfg g cs=some x):(g=true/\x=.agg cs)∨(g=false/\∃ s,cs=[s]/\x=.s s):=by
 cases g with
 | true=>exact .inl ⟨rfl,by simp[jfg] at h;exact h.symm⟩
 | false =>
  match cs,h with
  | [a],h=>exact .inr ⟨rfl,a,rfl,by simp[jfg] at h;exact h.symm⟩
  | [],h=>simp[jfg] at h
  | a::b::r,h=>simp[jfg] at h
end
section
variable {α:Type}
theorem jo0 (k:Nat):(Tr.leaf:Tr α).get k=none:=rfl
theorem ja8 (l r:Tr α) (v:Option α) (k:Nat):(Tr.node l v r).get k=if k=1 then v else if k % 2=1 then r.get (k / 2) else l.get (k / 2):=by
 have h:(Tr.node l v r).get k=Bool.rec (motive:=fun _=>Option α) (Bool.rec (motive:=fun _=>Option α) (l.get (Nat.div k 2)) (r.get (Nat.div k 2)) (Nat.beq (Nat.land k 1) 1)) v (Nat.beq k 1):=rfl
 rw[h,jsb,jsb]
 have e:Nat.land k 1=k % 2:=f2a k
 rw[e]
 simp only[jgt]
 rfl
theorem jo1 (n k:Nat) (x:Option α):(Tr.leaf:Tr α).put (n+1) k x=if k=1 then .node .leaf x .leaf else if k % 2=1 then .node .leaf none ((Tr.leaf:Tr α).put n (k / 2) x) else .node ((Tr.leaf:Tr α).put n (k / 2) x) none .leaf:=by
 have h:(Tr.leaf:Tr α).put (n+1) k x=Bool.rec (motive:=fun _=>Tr α) (Bool.rec (motive:=fun _=>Tr α) (.node ((Tr.leaf:Tr α).put n (Nat.div k 2) x) none .leaf) (.node .leaf none ((Tr.leaf:Tr α).put n (Nat.div k 2) x)) (Nat.beq (Nat.land k 1) 1)) (.node .leaf x .leaf) (Nat.beq k 1):=rfl
 rw[h,jsb,jsb]
 have e:Nat.land k 1=k % 2:=f2a k
 rw[e]
 simp only[jgt]
 rfl
theorem jo2 (n k:Nat) (l r:Tr α) (v x:Option α):(Tr.node l v r).put (n+1) k x=if k=1 then .node l x r else if k % 2=1 then .node l v (r.put n (k / 2) x) else .node (l.put n (k / 2) x) v r:=by
 have h:(Tr.node l v r).put (n+1) k x=Bool.rec (motive:=fun _=>Tr α) (Bool.rec (motive:=fun _=>Tr α) (.node (l.put n (Nat.div k 2) x) v r) (.node l v (r.put n (Nat.div k 2) x)) (Nat.beq (Nat.land k 1) 1)) (.node l x r) (Nat.beq k 1):=rfl
 rw[h,jsb,jsb]
 have e:Nat.land k 1=k % 2:=f2a k
 rw[e]
 simp only[jgt]
 rfl
theorem jjg (t:Tr α):t.get 0=none:=by
 induction t with
 | leaf=>rfl
 | node l v r ihl ihr=>rw[ja8];simpa using ihl
theorem jbx (x:Option α):∀ (n:Nat) (t:Tr α) (k:Nat),1<=k->k<2 ^ n->(t.put n k x).get k=x
 | 0,t,k,h1,h2=>by simp at h2;omega
 | n+1,t,k,h1,h2=>by
  have hk:k / 2<2 ^ n:=by rw[Nat.pow_succ] at h2;omega
  cases t with
  | leaf =>
   rw[jo1]
   split
   .rename_i h;rw[ja8,if_pos h]
   .rename_i h
    have:=jbx x n .leaf (k / 2) (by omega) hk
    split
    .rename_i h3;rw[ja8,if_neg h,if_pos h3,this]
    .rename_i h3;rw[ja8,if_neg h,if_neg h3,this]
  | node l v r =>
   rw[jo2]
   split
   .rename_i h;rw[ja8,if_pos h]
   .rename_i h
    split
    .rename_i h3;rw[ja8,if_neg h,if_pos h3,jbx x n r (k / 2) (by omega) hk]
    .rename_i h3;rw[ja8,if_neg h,if_neg h3,jbx x n l (k / 2) (by omega) hk]
theorem jb9 (x:Option α):∀ (n:Nat) (t:Tr α) (k j:Nat),1<=k->k<2 ^ n->j≠k->(t.put n k x).get j=t.get j
 | 0,t,k,j,h1,h2,_=>by simp at h2;omega
 | n+1,t,k,j,h1,h2,hj=>by
  rcases f2o j with h0 | h0
  .subst h0;rw[jjg,jjg]
  have hk:k / 2<2 ^ n:=by rw[Nat.pow_succ] at h2;omega
  cases t with
  | leaf =>
   rw[jo1,jo0]
   split
   .rename_i h;rw[ja8,if_neg (show ¬ j=1 by omega)];split<;>rfl
   .rename_i h
    split
    .rename_i h3
     rw[ja8]
     split
     .rfl
     split
     .rw [jb9 x n .leaf (k / 2) (j / 2) (by omega) hk (by omega)];rfl
     .rfl
    .rename_i h3
     rw[ja8]
     split
     .rfl
     split
     .rfl
     .rw [jb9 x n .leaf (k / 2) (j / 2) (by omega) hk (by omega)];rfl
  | node l v r =>
   rw[jo2]
   split
   .rename_i h;rw[ja8,ja8,if_neg (show ¬ j=1 by omega),if_neg (show ¬ j=1 by omega)]
   .rename_i h
    split
    .rename_i h3
     rw[ja8,ja8]
     split
     .rfl
     split
     .rw [jb9 x n r (k / 2) (j / 2) (by omega) hk (by omega)]
     .rfl
    .rename_i h3
     rw[ja8,ja8]
     split
     .rfl
     split
     .rfl
     .rw [jb9 x n l (k / 2) (j / 2) (by omega) hk (by omega)]
end
end Go.Proofs.YtdbklpgagdbpiaaDoor.Ev
namespace Go.Proofs.YtdbklpgagdbpiaaDoor.Ev
open Go
set_option linter.all false
variable {v:AV} {a:Int} {rows:List (List SV)} {cs xs:List SV} {b m off:Nat}
theorem Hp.get_eq (h:Hp) (n:Nat):h.get n=if jao h.hid n=true then none else h.tr.get n:=by
 cases h with | mk a t lo hid=>exact jap _ _ _
theorem Hp.get_some {h:Hp} {n:Nat} {x:AB} (k:h.get n=some x):jao h.hid n=false/\h.tr.get n=some x:=by
 rw[Hp.get_eq] at k
 split at k
 .cases k
 .rename_i h';exact⟨by simpa using h',k⟩
theorem Hp.get_isSome {h:Hp} {n:Nat} (k:(h.get n).isSome=true):jao h.hid n=false/\(h.tr.get n).isSome=true:=by
 cases e:h.get n with
 | none=>rw[e] at k;cases k
 | some x=>obtain⟨h1,h2⟩:=Hp.get_some e;exact⟨h1,by rw[h2];rfl⟩
theorem Hp.isSome_get {h:Hp} {n:Nat} (k:jao h.hid n=false) (k':(h.tr.get n).isSome=true):(h.get n).isSome=true:=by
 rw[Hp.get_eq,if_neg (by simp[k])];exact k'
@[simp] theorem Hp.next_put (h:Hp) (b:Nat) (x:Option AB):(h.put b x).next=h.next:=by cases h;rfl
@[simp] theorem Hp.lo_put (h:Hp) (b:Nat) (x:Option AB):(h.put b x).lo=h.lo:=by cases h;rfl
@[simp] theorem Hp.hid_put (h:Hp) (b:Nat) (x:Option AB):(h.put b x).hid=h.hid:=by cases h;rfl
theorem Hp.tr_put (h:Hp) (b:Nat) (x:Option AB):(h.put b x).tr=h.tr.put (Nat.succ b) b x:=by cases h;rfl
noncomputable def Hp.push (h:Hp) (x:AB):Hp:=.mk (h.next+1) (h.tr.put (Nat.succ h.next) h.next (some x)) h.lo h.hid
@[simp] theorem Hp.next_push (h:Hp) (x:AB):(h.push x).next=h.next+1:=rfl
@[simp] theorem Hp.lo_push (h:Hp) (x:AB):(h.push x).lo=h.lo:=rfl
@[simp] theorem Hp.hid_push (h:Hp) (x:AB):(h.push x).hid=h.hid:=rfl
theorem jtm {β:Type} {h:Hp} {ty:TypeId} {f:Nat->Hp->Option β} {r:β} (k:nw h cs ty f=some r) :
 0<=h.next/\jao h.hid h.next=false/\f h.next (h.push (.arr cs ty))=some r:=by
 cases h with
 | mk n t lo hid =>
  have k':oif (Nat.ble 0 n) (oif (jao hid n) none (f n (.mk (Nat.succ n) (t.put (Nat.succ n) n (some (.arr cs ty))) lo hid))) none=some r:=k
  obtain⟨h1,h2⟩:=jab.1 k'
  rw[jap] at h2
  split at h2
  .cases h2
  .rename_i h3;exact⟨f0g h1,Bool.eq_false_iff.2 h3,h2⟩
theorem jjh {h h':Hp} (k:wr h b off xs=some h') :
 h.lo<=b/\∃ cs ty,h.get b=some (.arr cs ty)/\off+xs.length<=cs.length/\h'=h.put b (some (.arr (cs.take off++(xs++cs.drop (off+xs.length))) ty)):=by
 obtain⟨h1,h2⟩:=jab.1 k
 obtain⟨x,hx,h3⟩:=jaa.1 h2
 cases x with
 | arr cs ty =>
  obtain⟨cs',h4,h5⟩:=jaa.1 h3
  obtain⟨h6,rfl⟩:=(jf7 _).1 h4
  exact⟨by simpa[jtj] using h1,cs,ty,hx,h6,(Option.some.inj h5).symm⟩
 | map va es=>cases h3
theorem jo3 {h:Hp} {n:Nat} (k:rd h b off n=some xs) :
 ∃ cs ty,h.get b=some (.arr cs ty)/\xs=(cs.drop off).take n/\xs.length=n:=by
 obtain⟨x,hx,h3⟩:=jaa.1 k
 cases x with
 | arr cs ty =>
  have h3':jbp n (jb4 off cs)=some xs:=h3
  rw[jb8] at h3'
  obtain⟨h6,rfl⟩:=(ja5 _).1 h3'
  exact⟨cs,ty,hx,rfl,by simp at h6 ⊢;omega⟩
 | map va es=>cases h3
structure WF (h:Hp):Prop where
 pos:1<=h.next
 top:0<=h.next
 lo:h.lo<=h.next
 fresh:∀ n,h.next<=n->h.tr.get n=none
theorem WF.lt {h:Hp} (k:WF h) {n:Nat} (e:(h.tr.get n).isSome=true):n<h.next:=by
 rcases f0h n h.next with h1 | h1
 .exact h1
 .rw [k.fresh n h1] at e;cases e
theorem WF.one {h:Hp} {n:Nat} (e:(h.tr.get n).isSome=true):1<=n:=by
 rcases f2o n with h0 | h0
 .subst h0;rw[jjg] at e;cases e
 .exact h0
theorem jng (b:Nat):b<2 ^ (Nat.succ b):=Nat.lt_trans (Nat.lt_succ_self b) Nat.lt_two_pow_self
theorem WF.put_same {h:Hp} (k:WF h) (e:(h.tr.get b).isSome=true) (x:Option AB):(h.put b x).tr.get b=x:=by
 rw[Hp.tr_put];exact jbx x _ _ b (WF.one e) (jng b)
theorem WF.put_ne {h:Hp} (k:WF h) (e:(h.tr.get b).isSome=true) (x:Option AB) {n:Nat} (hn:n≠b):(h.put b x).tr.get n=h.tr.get n:=by
 rw[Hp.tr_put];exact jb9 x _ _ b n (WF.one e) (jng b) hn
theorem WF.push_same {h:Hp} (k:WF h) (k':0<=h.next) (x:AB):(h.push x).tr.get h.next=some x :=
 jbx _ _ _ _ k.pos (jng _)
theorem WF.push_ne {h:Hp} (k:WF h) (k':0<=h.next) (x:AB) {n:Nat} (hn:n≠h.next):(h.push x).tr.get n=h.tr.get n :=
 jb9 _ _ _ _ n k.pos (jng _) hn
theorem WF.put {h:Hp} (k:WF h) (e:(h.tr.get b).isSome=true) (x:Option AB):WF (h.put b x) :=
 ⟨by simpa using k.pos,f14 _,by simpa using k.lo,fun n hn=>by
  rw[Hp.next_put] at hn
  have:=k.lt e
  rw[k.put_ne e x (by omega)];exact k.fresh n hn⟩
theorem WF.push {h:Hp} (k:WF h) (k':0<=h.next) (x:AB):WF (h.push x) :=
 ⟨by simp,f14 _,by have:=k.lo;simp;omega,fun n hn=>by
  rw[Hp.next_push] at hn
  rw[k.push_ne k' x (by omega)];exact k.fresh n (by omega)⟩
structure Abs (W:Nat->Prop) (h h':Hp):Prop where
 wf:WF h'
 nx:h.next<=h'.next
 lo:h'.lo=h.lo
 hid:h'.hid=h.hid
 keep:∀ n,n<h.next->(¬ W n∨jao h.hid n=true)->h'.tr.get n=h.tr.get n
 live:∀ n,n<h.next->(h'.tr.get n).isSome=true->(h.tr.get n).isSome=true
 seen:∀ n,h.next<=n->n<h'.next->jao h.hid n=false
theorem Abs.refl (W:Nat->Prop) {h:Hp} (k:WF h):Abs W h h:=⟨k,f0d _,rfl,rfl,fun _ _ _=>rfl,fun _ _ h=>h,fun n h1 h2=>by omega⟩
theorem Abs.mono {W V:Nat->Prop} (hw:∀ n,W n->V n) {h h':Hp} (k:Abs W h h'):Abs V h h' :=
 ⟨k.wf,k.nx,k.lo,k.hid,fun n hn hv=>k.keep n hn (hv.imp (fun h h'=>h (hw n h')) id),k.live,k.seen⟩
theorem Abs.trans {W:Nat->Prop} {h h' h'':Hp} (a:Abs W h h') (b:Abs W h' h''):Abs W h h'' :=
 ⟨b.wf,f01 a.nx b.nx,b.lo.trans a.lo,b.hid.trans a.hid,
  fun n hn hv=>(b.keep n (f0m hn a.nx) (by rwa [a.hid])).trans (a.keep n hn hv),
  fun n hn hv=>a.live n hn (b.live n (f0m hn a.nx) hv),fun n h1 h2=>by
   rcases f0h n h'.next with h3 | h3
   .exact a.seen n h1 h3
   .rw [←a.hid];exact b.seen n h3 h2⟩
theorem Abs.push (W:Nat->Prop) {h:Hp} (k:WF h) (k':0<=h.next) (k2:jao h.hid h.next=false) (x:AB):Abs W h (h.push x) :=
 ⟨k.push k' x,by simp,rfl,rfl,fun n hn _=>k.push_ne k' x (by omega),fun n hn hv=>by rwa [k.push_ne k' x (by omega)] at hv,fun n h1 h2=>by
  rw[Hp.next_push] at h2
  obtain rfl:n=h.next:=by omega
  exact k2⟩
theorem Abs.put {h:Hp} (k:WF h) (e:(h.get b).isSome=true) (x:Option AB):Abs (fun n=>n=b) h (h.put b x):=by
 obtain⟨e1,e2⟩:=Hp.get_isSome e
 refine⟨k.put e2 x,by simp,by simp,by simp,fun n hn hv=>k.put_ne e2 x ?_,fun n hn hv=>?_,fun n h1 h2=>by rw[Hp.next_put] at h2;omega⟩
 .rintro rfl
  rcases hv with hv | hv
  .exact hv rfl
  .rw [e1] at hv;cases hv
 .by_cases hb:n=b
  .subst hb;exact e2
  .rwa [k.put_ne e2 x hb] at hv
theorem Abs.get_isSome {W:Nat->Prop} {h h':Hp} (a:Abs W h h') {n:Nat} (hn:n<h.next) (k:(h'.get n).isSome=true):(h.get n).isSome=true:=by
 obtain⟨k1,k2⟩:=Hp.get_isSome k
 rw[a.hid] at k1
 exact Hp.isSome_get k1 (a.live n hn k2)
section
variable (A:Nat->Int)
def NmR (φ:Phi) (n:Nat) (x:AB) (w:World):Prop :=
 match x with
 | .arr cs ty=>∃ L c,φ n=some L/\w.heap[L.b]?=some (.cells c ty (0,0))/\c.size=L.lim/\(L.o+cs.length<=L.lim/\(ty=bT->L.o=0/\L.lim=cs.length))/\∀ i sv,cs[i]?=some sv->∃ v,c[L.o+i]?=some v/\cS A φ sv v
 | .map va es=>∃ L es' clock,φ n=some L/\w.heap[L.b]?=some (.map es' clock)/\All2 (fun p e=>cV1 A φ (kag p.1) p.1 e.key/\cV1 A φ va p.2 e.val) es es'.toList
structure Rel (φ:Phi) (h:Hp) (w:World):Prop where
 wf:WF h
 dom:∀ n,h.next<=n->φ n=none
 blk:∀ n x,h.get n=some x->NmR A φ n x w
 inj:∀ n m L M,(h.get n).isSome=true->(h.get m).isSome=true->φ n=some L->φ m=some M->L.b=M.b->n=m
 con:∀ b cs,φ.k b=some cs->∃ ty:TypeId×Nat×Nat,w.heap[b]?=some (.cells cs ty.1 ty.2)
 sep:∀ n L,(h.get n).isSome=true->φ n=some L->φ.k L.b=none
structure Step (W:Nat->Prop) (φ φ':Phi) (h h':Hp) (w w':World):Prop where
 abs:Abs W h h'
 ext:∀ n,n<h.next->φ' n=φ n
 kle:∀ b cs,φ.k b=some cs->φ'.k b=some cs
 knew:∀ b cs,φ'.k b=some cs->φ.k b=some cs∨w.heap.size<=b
 os:w'.os=w.os
 tape:w'.tape=w.tape
 output:w'.output=w.output
 size:w.heap.size<=w'.heap.size
 old:∀ b,b<w.heap.size->(∀ n L,W n->(h.get n).isSome=true->φ n=some L->L.b≠b)->w'.heap[b]?=w.heap[b]?
 new:∀ n L,h.next<=n->(h'.get n).isSome=true->φ' n=some L->w.heap.size<=L.b∨∃ m M,W m/\(h.get m).isSome=true/\φ m=some M/\M.b=L.b
end
section
variable {A:Nat->Int} {φ ψ χ:Phi} {h h' h'':Hp} {w w' w'':World} {W V:Nat->Prop}
theorem NmR.mono (hle:φ.le ψ) {n:Nat} {x:AB} (k:NmR A φ n x w):NmR A ψ n x w:=by
 cases x with
 | arr cs ty =>
  obtain⟨L,c,h1,h3,h4,h5,h6⟩:=k
  exact⟨L,c,hle.nm _ _ h1,h3,h4,h5,fun i sv hi=>let ⟨v,a,b⟩:=h6 i sv hi;⟨v,a,b.mono hle⟩⟩
 | map va es =>
  obtain⟨L,es',clock,h1,h3,h4⟩:=k
  exact⟨L,es',clock,hle.nm _ _ h1,h3,h4.mono (fun p e hp=>⟨hp.1.mono hle,hp.2.mono hle⟩)⟩
theorem NmR.world {n:Nat} {x:AB} (k:NmR A φ n x w) (hw:∀ L,φ n=some L->w'.heap[L.b]?=w.heap[L.b]?):NmR A φ n x w':=by
 cases x with
 | arr cs ty =>
  obtain⟨L,c,h1,h3,h4,h5,h6⟩:=k
  exact⟨L,c,h1,by rw[hw L h1,h3],h4,h5,h6⟩
 | map va es =>
  obtain⟨L,es',clock,h1,h3,h4⟩:=k
  exact⟨L,es',clock,h1,by rw[hw L h1,h3],h4⟩
theorem NmR.some_loc {n:Nat} {x:AB} (k:NmR A φ n x w):∃ L,φ n=some L/\L.b<w.heap.size:=by
 cases x with
 | arr cs ty =>
  obtain⟨L,c,h1,h3,h4,h5,h6⟩:=k
  exact⟨L,h1,(f05.1 h3).1⟩
 | map va es =>
  obtain⟨L,es',clock,h1,h3,h4⟩:=k
  exact⟨L,h1,(f05.1 h3).1⟩
theorem Rel.loc (k:Rel A φ h w) {n:Nat} (e:(h.get n).isSome=true):∃ L,φ n=some L/\L.b<w.heap.size:=by
 cases e':h.get n with
 | none=>rw[e'] at e;cases e
 | some x=>exact(k.blk n x e').some_loc
theorem Rel.heap (k:Rel A φ h w) (hw:w'.heap=w.heap):Rel A φ h w' :=
 ⟨k.wf,k.dom,fun n x hx=>(k.blk n x hx).world (fun L _=>by rw[hw]),k.inj,fun b cs e=>by rw[hw];exact k.con b cs e,k.sep⟩
theorem Step.le (s:Step W φ ψ h h' w w') (k:Rel A φ h w):φ.le ψ:=by
 refine⟨fun n L e=>?_,s.kle⟩
 rcases f0h n h.next with h1 | h1
 .rw [s.ext n h1];exact e
 .rw [k.dom n h1] at e;cases e
theorem Rel.conLt (k:Rel A φ h w) {cs:Array Value} (e:φ.k b=some cs):b<w.heap.size:=by
 obtain⟨ty,h1⟩:=k.con b cs e
 exact(f05.1 h1).1
theorem Step.mono (hw:∀ n,W n->V n) (s:Step W φ ψ h h' w w'):Step V φ ψ h h' w w' :=
 ⟨s.abs.mono hw,s.ext,s.kle,s.knew,s.os,s.tape,s.output,s.size,fun b hb hv=>s.old b hb (fun n L hn=>hv n L (hw n hn)),
  fun n L a b c=>(s.new n L a b c).imp id (fun⟨m,M,e,r⟩=>⟨m,M,hw m e,r⟩)⟩
theorem Step.refl (W:Nat->Prop) (k:Rel A φ h w) (hw:w'.heap=w.heap) (os:w'.os=w.os) (tape:w'.tape=w.tape) (output:w'.output=w.output):Step W φ φ h h w w' :=
 ⟨Abs.refl W k.wf,fun _ _=>rfl,fun _ _ e=>e,fun _ _ e=>.inl e,os,tape,output,by rw[hw];exact f0d _,fun b _ _=>by rw[hw],
  fun n L a b c=>by rw[k.dom n a] at c;cases c⟩
theorem Step.trans (s:Step W φ ψ h h' w w') (t:Step W ψ χ h' h'' w' w''):Step W φ χ h h'' w w'':=by
 have nx:=s.abs.nx
 refine⟨s.abs.trans t.abs,fun n hn=>(t.ext n (by omega)).trans (s.ext n hn),fun b cs e=>t.kle b cs (s.kle b cs e),fun b cs e=>(t.knew b cs e).elim (s.knew b cs) (fun h=>.inr (f01 s.size h)),t.os.trans s.os,t.tape.trans s.tape,t.output.trans s.output,f01 s.size t.size,?_,?_⟩
 .intro b hb hv
  have h1:=s.old b hb hv
  rw[←h1]
  refine t.old b (f0m hb s.size) ?_
  intro n L hn hl hL
  rcases f0h n h.next with h2 | h2
  .exact hv n L hn (s.abs.get_isSome h2 hl) (by rw[←s.ext n h2];exact hL)
  .rcases s.new n L h2 hl hL with h3 | ⟨m,M,h3,h4,h5,h6⟩
   .omega
   .rw [←h6];exact hv m M h3 h4 h5
 .intro n L hn hl hL
  rcases f0h n h'.next with h2 | h2
  .exact s.new n L hn (t.abs.get_isSome h2 hl) (by rw[←t.ext n h2];exact hL)
  .rcases t.new n L h2 hl hL with h3 | ⟨m,M,h3,h4,h5,h6⟩
   .exact .inl (f01 s.size h3)
   .rcases f0h m h.next with h7 | h7
    .exact .inr ⟨m,M,h3,s.abs.get_isSome h7 h4,by rw[←s.ext m h7];exact h5,h6⟩
    .rcases s.new m M h7 h4 h5 with h8 | ⟨m',M',h8,h9,h10,h11⟩
     .exact .inl (by rw[←h6];exact h8)
     .exact .inr ⟨m',M',h8,h9,h10,h11.trans h6⟩
structure Grown (w w':World) (c:Array Value) (ty:TypeId):Prop where
 os:w'.os=w.os
 tape:w'.tape=w.tape
 output:w'.output=w.output
 size:w'.heap.size=w.heap.size+1
 old:∀ b,b<w.heap.size->w'.heap[b]?=w.heap[b]?
 new:w'.heap[w.heap.size]?=some (.cells c ty (0,0))
theorem Grown.of {w w':World} {c:Array Value} {ty:TypeId} (os:w'.os=w.os) (tape:w'.tape=w.tape) (output:w'.output=w.output) (hh:w'.heap=w.heap.push (.cells c ty)):Grown w w' c ty :=
 ⟨os,tape,output,by rw[hh,Array.size_push],fun b hb=>by rw[hh,Array.getElem?_push,if_neg (Nat.ne_of_lt hb)],by rw[hh,Array.getElem?_push,if_pos rfl]⟩
theorem Grown.alloc (w:World) (c:Array Value) (ty:TypeId):Grown w (w.alloc (.cells c ty)) c ty:=.of rfl rfl rfl rfl
theorem Grown.drew (w:World) (c:Array Value) (ty:TypeId):Grown w (w.drew.alloc (.cells c ty)) c ty:=.of rfl rfl rfl rfl
def Phi.add (φ:Phi) (n:Nat) (L:Lc):Phi:=⟨fun m=>if m=n then some L else φ m,φ.k,φ.g⟩
theorem Phi.add_same (φ:Phi) (n:Nat) (L:Lc):φ.add n L n=some L:=by simp[Phi.add]
theorem Phi.add_ne (φ:Phi) {n:Nat} (L:Lc) (k:m≠n):φ.add n L m=φ m:=by simp[Phi.add,k]
theorem Rel.le_add (k:Rel A φ h w) (L:Lc):φ.le (φ.add h.next L):=by
 refine⟨fun n M e=>?_,fun _ _ e=>e⟩
 rw[Phi.add_ne φ L]
 .exact e
 .rintro rfl;rw[k.dom _ (f0d _)] at e;cases e
theorem Rel.push (k:Rel A φ h w) (h1:0<=h.next) (h2:jao h.hid h.next=false) {c:Array Value} {ty:TypeId} (g:Grown w w' c ty)
 (hl:cs.length<=c.size) (hxb:ty=bT->c.size=cs.length) (hc:∀ (i:Nat) sv,cs[i]?=some sv->∃ v,c[i]?=some v/\cS A φ sv v) :
 Step (fun _=>False) φ (φ.add h.next ⟨w.heap.size,0,c.size⟩) h (h.push (.arr cs ty)) w w'/\Rel A (φ.add h.next ⟨w.heap.size,0,c.size⟩) (h.push (.arr cs ty)) w':=by
 have hle:=k.le_add ⟨w.heap.size,0,c.size⟩
 have hget:∀ n,n≠h.next->(h.push (.arr cs ty)).get n=h.get n:=fun n hn=>by
  rw[Hp.get_eq,Hp.get_eq,k.wf.push_ne h1 _ hn];rfl
 have hkn:∀ b,w.heap.size<=b->φ.k b=none:=fun b hb=>by
  cases e:φ.k b with
  | none=>rfl
  | some cs=>exact absurd (k.conLt e) (by omega)
 refine⟨⟨Abs.push _ k.wf h1 h2 _,fun n hn=>Phi.add_ne _ _ (by omega),fun _ _ e=>e,fun _ _ e=>.inl e,g.os,g.tape,g.output,by rw[g.size];omega,fun b hb _=>g.old b hb,fun n L hn hs hL=>?_⟩,⟨k.wf.push h1 _,fun n hn=>?_,fun n x hx=>?_,?_,fun b cs' e=>?_,fun n L hn hL=>?_⟩⟩
 .by_cases e:n=h.next
  .subst e;rw[Phi.add_same] at hL;cases hL;exact .inl (f0d _)
  .rw [Phi.add_ne _ _ e,k.dom n hn] at hL;cases hL
 .simp at hn;rw[Phi.add_ne _ _ (by omega)];exact k.dom n (by omega)
 .by_cases e:n=h.next
  .subst e
   obtain⟨_,hx⟩:=Hp.get_some hx
   rw[k.wf.push_same h1] at hx
   cases hx
   exact⟨_,c,Phi.add_same _ _ _,g.new,rfl,⟨by simpa using hl,fun e=>⟨rfl,hxb e⟩⟩,fun i sv hi=>let ⟨v,a,b⟩:=hc i sv hi;⟨v,by simpa using a,b.mono hle⟩⟩
  .rw [hget n e] at hx
   exact((k.blk n x hx).mono hle).world (fun L hL=>by
    rw[Phi.add_ne _ _ e] at hL
    obtain⟨L',hL',hb⟩:=(k.blk n x hx).some_loc
    rw[hL] at hL';cases hL'
    exact g.old _ hb)
 .have key:∀ n m L M,n=h.next->m≠h.next->((h.push (.arr cs ty)).get m).isSome=true->φ.add h.next ⟨w.heap.size,0,c.size⟩ n=some L->φ.add h.next ⟨w.heap.size,0,c.size⟩ m=some M->L.b≠M.b:=by
   intro n m L M en em hm hL hM
   subst en
   rw[hget m em] at hm
   rw[Phi.add_same] at hL
   rw[Phi.add_ne _ _ em] at hM
   cases hL
   obtain⟨M',hM',hb⟩:=k.loc hm
   rw[hM] at hM';cases hM'
   exact fun e=>by simp at e;omega
  intro n m L M hn hm hL hM e
  by_cases en:n=h.next
  .by_cases em:m=h.next
   .rw [en,em]
   .exact absurd e (key n m L M en em hm hL hM)
  .by_cases em:m=h.next
   .exact absurd e.symm (key m n M L em en hn hM hL)
   .rw [hget n en] at hn
    rw[hget m em] at hm
    rw[Phi.add_ne _ _ en] at hL
    rw[Phi.add_ne _ _ em] at hM
    exact k.inj n m L M hn hm hL hM e
 .have e':φ.k b=some cs':=e
  obtain⟨ty',h3⟩:=k.con b cs' e'
  exact⟨ty',by rw[g.old b (k.conLt e')];exact h3⟩
 .show φ.k L.b=none
  by_cases en:n=h.next
  .subst en
   rw[Phi.add_same] at hL
   cases hL
   exact hkn _ (f0d _)
  .rw [hget n en] at hn
   rw[Phi.add_ne _ _ en] at hL
   exact k.sep n L hn hL
structure Changed (w w':World) (b:Nat) (c:Array Value) (ty:TypeId):Prop where
 os:w'.os=w.os
 tape:w'.tape=w.tape
 output:w'.output=w.output
 size:w'.heap.size=w.heap.size
 old:∀ k,k≠b->w'.heap[k]?=w.heap[k]?
 new:w'.heap[b]?=some (.cells c ty (0,0))
theorem Changed.row {w:World} {cur:Array Value} {ty:TypeId} (hb:w.heap[b]?=some (.cells cur ty (0,0))) (c:Array Value):Changed w (w.setRow b c) b c ty :=
 ⟨rfl,rfl,rfl,by unfold World.setRow;simp,fun k hk=>setRow_other w b k c hk,setRow_heap w b cur c ty _ hb⟩
theorem Rel.put (k:Rel A φ h w) (hw:wr h b off xs=some h') {vs:List Value} (hv:All2 (cS A φ) xs vs) :
 ∃ L c ty,φ b=some L/\(h.get b).isSome=true/\w.heap[L.b]?=some (.cells c ty (0,0))/\L.o+off+vs.length<=c.size /\
  ∀ w',Changed w w' L.b (c.toList.take (L.o+off)++vs++c.toList.drop (L.o+off+vs.length)).toArray ty->Step (fun n=>n=b) φ φ h h' w w'/\Rel A φ h' w':=by
 obtain⟨_,cs,ty,hg,hl,rfl⟩:=jjh hw
 have hvl:=hv.len
 obtain⟨L,c,h1,h3,h4,h5,h6⟩:=k.blk b _ hg
 have hgs:(h.get b).isSome=true:=by rw[hg];rfl
 obtain⟨e1,e2⟩:=Hp.get_isSome hgs
 refine⟨L,c,ty,h1,hgs,h3,by omega,fun w' g=>?_⟩
 have hget:∀ n,n≠b->(h.put b (some (.arr (cs.take off++(xs++cs.drop (off+xs.length))) ty))).get n=h.get n:=fun n hn=>by
  rw[Hp.get_eq,Hp.get_eq,k.wf.put_ne e2 _ hn,Hp.hid_put]
 have hsame:∀ n,((h.put b (some (.arr (cs.take off++(xs++cs.drop (off+xs.length))) ty))).get n).isSome=true->(h.get n).isSome=true:=fun n hn=>by
  by_cases e:n=b
  .subst e;exact hgs
  .rwa [hget n e] at hn
 refine⟨⟨Abs.put k.wf hgs _,fun _ _=>rfl,fun _ _ e=>e,fun _ _ e=>.inl e,g.os,g.tape,g.output,by rw[g.size];exact f0d _,fun p hp hv=>?_,fun n L a b c=>by rw[k.dom n a] at c;cases c⟩,⟨k.wf.put e2 _,by simpa using k.dom,fun n x hx=>?_,fun n m L M hn hm=>k.inj n m L M (hsame n hn) (hsame m hm),fun p cs' e=>?_,fun n M hn hM=>k.sep n M (hsame n hn) hM⟩⟩
 .exact g.old p (fun e=>hv b L rfl hgs h1 e.symm)
 .by_cases e:n=b
  .subst e
   obtain⟨_,hx⟩:=Hp.get_some hx
   rw[k.wf.put_same e2] at hx
   cases hx
   refine⟨L,_,h1,g.new,by simp;omega,⟨by simp;omega,fun e=>⟨(h5.2 e).1,by rw[(h5.2 e).2];simp;omega⟩⟩,fun i sv hi=>?_⟩
   rw[f2s] at hi
   split at hi
   .rename_i hlt
    rw[f10] at hlt
    rw[f17 (by omega)] at hi
    obtain⟨v,a,b⟩:=h6 i sv hi
    refine⟨v,?_,b⟩
    rw[←a]
    simp only[f20,f0l]
    rw[f0t (by simp;omega),f17 (by omega)]
    simp
   .rename_i hge
    rw[f10] at hge hi
    rw[f2s] at hi
    split at hi
    .rename_i hlt
     obtain⟨v,a,b⟩:=hv.get _ _ hi
     refine⟨v,?_,b⟩
     rw[←a]
     simp only[f20,f0l]
     rw[f0u (by simp;omega),f0t (by simp;omega)]
     congr 1
     simp
     omega
    .rename_i hge2
     rw[f1f] at hi
     obtain⟨v,a,b⟩:=h6 i sv (by rw[←hi];congr 1;omega)
     refine⟨v,?_,b⟩
     rw[←a]
     simp only[f20,f0l]
     rw[f0u (by simp;omega),f0u (by simp;omega),f1f]
     simp only[f10,f2g]
     rw[f02]
     congr 1
     omega
  .rw [hget n e] at hx
   refine(k.blk n x hx).world (fun M hM=>g.old _ (fun e'=>e ?_))
   exact k.inj n b M L (by rw[hx];rfl) hgs hM h1 e'
 .obtain ⟨ty',h7⟩:=k.con p cs' e
  exact⟨ty',by rw[g.old p (fun e'=>by have:=k.sep b L hgs h1;rw[←e',e] at this;cases this)];exact h7⟩
theorem Rel.app (k:Rel A φ h w) {x:AB} (hg:h.get b=some x) {L:Lc} {c c':Array Value} {ty:TypeId} (hL:φ b=some L) (hlim:c.size=L.lim)
 (h1:0<=h.next) (h2:jao h.hid h.next=false) (g:Changed w w' L.b c' ty) (hs:c'.size=c.size) (o:Nat) {cs:List SV} (hl:o+cs.length<=c.size) (hEb:ty≠bT)
 (hc:∀ (i:Nat) sv,cs[i]?=some sv->∃ v,c'[o+i]?=some v/\cS A φ sv v) :
 Step (fun n=>n=b) φ (φ.add h.next ⟨L.b,o,L.lim⟩) h ((h.put b none).push (.arr cs ty)) w w'/\Rel A (φ.add h.next ⟨L.b,o,L.lim⟩) ((h.put b none).push (.arr cs ty)) w':=by
 have hle:=k.le_add ⟨L.b,o,L.lim⟩
 have hgs:(h.get b).isSome=true:=by rw[hg];rfl
 obtain⟨e1,e2⟩:=Hp.get_isSome hgs
 have hbn:b≠h.next:=by have:=k.wf.lt e2;omega
 have wf1:WF (h.put b none):=k.wf.put e2 _
 have h1':0<=(h.put b none).next:=f14 _
 have hget:∀ n,n≠h.next->n≠b->((h.put b none).push (.arr cs ty)).get n=h.get n:=fun n hn hb=>by
  rw[Hp.get_eq,Hp.get_eq,wf1.push_ne h1' _ (by simpa using hn),k.wf.put_ne e2 _ hb];simp
 have hgb:((h.put b none).push (.arr cs ty)).get b=none:=by
  rw[Hp.get_eq,wf1.push_ne h1' _ (by simpa using hbn),k.wf.put_same e2];split<;>rfl
 have hother:∀ n,n≠h.next->(((h.put b none).push (.arr cs ty)).get n).isSome=true->n≠b/\(h.get n).isSome=true:=fun n hn hs=>by
  by_cases e:n=b
  .subst e;rw[hgb] at hs;cases hs
  .rw [hget n hn e] at hs;exact⟨e,hs⟩
 refine⟨⟨(Abs.put k.wf hgs none).trans ((Abs.push _ wf1 h1' (by simpa using h2) _)),fun n hn=>Phi.add_ne _ _ (by omega),fun _ _ e=>e,fun _ _ e=>.inl e,g.os,g.tape,g.output,by rw[g.size];exact f0d _,fun p hp hv=>g.old p (fun e=>hv b L rfl hgs hL e.symm),fun n M hn hs hM=>?_⟩,⟨wf1.push h1' _,fun n hn=>?_,fun n y hy=>?_,?_,fun p cs' e=>?_,fun n M hn hM=>?_⟩⟩
 .by_cases e:n=h.next
  .subst e;rw[Phi.add_same] at hM;cases hM;exact .inr ⟨b,L,rfl,hgs,hL,rfl⟩
  .rw [Phi.add_ne _ _ e,k.dom n hn] at hM;cases hM
 .simp at hn;rw[Phi.add_ne _ _ (by omega)];exact k.dom n (by omega)
 .by_cases e:n=h.next
  .subst e
   obtain⟨_,hy⟩:=Hp.get_some hy
   have e3:((h.put b none).push (.arr cs ty)).tr.get h.next=some (.arr cs ty):=by
    have:=wf1.push_same h1' (.arr cs ty)
    rwa [Hp.next_put] at this
   rw[e3] at hy
   cases hy
   exact⟨_,c',Phi.add_same _ _ _,g.new,by simp[hs,hlim],⟨by simp;omega,fun e=>absurd e hEb⟩,fun i sv hi=>let ⟨v,a,b⟩:=hc i sv hi;⟨v,by simpa using a,b.mono hle⟩⟩
  .obtain ⟨hb,hs'⟩:=hother n e (by rw[hy];rfl)
   rw[hget n e hb] at hy
   refine((k.blk n y hy).mono hle).world (fun M hM=>g.old _ (fun e'=>hb ?_))
   rw[Phi.add_ne _ _ e] at hM
   exact k.inj n b M L hs' hgs hM hL e'
 .have key:∀ n m M N,n=h.next->m≠h.next->(((h.put b none).push (.arr cs ty)).get m).isSome=true->φ.add h.next ⟨L.b,o,L.lim⟩ n=some M->φ.add h.next ⟨L.b,o,L.lim⟩ m=some N->M.b≠N.b:=by
   intro n m M N en em hm hM hN
   subst en
   obtain⟨hb,hm'⟩:=hother m em hm
   rw[Phi.add_same] at hM
   rw[Phi.add_ne _ _ em] at hN
   cases hM
   exact fun e=>hb (k.inj m b N L hm' hgs hN hL e.symm)
  intro n m M N hn hm hM hN e
  by_cases en:n=h.next
  .by_cases em:m=h.next
   .rw [en,em]
   .exact absurd e (key n m M N en em hm hM hN)
  .by_cases em:m=h.next
   .exact absurd e.symm (key m n N M em en hn hN hM)
   .obtain ⟨_,hn'⟩:=hother n en hn
    obtain⟨_,hm'⟩:=hother m em hm
    rw[Phi.add_ne _ _ en] at hM
    rw[Phi.add_ne _ _ em] at hN
    exact k.inj n m M N hn' hm' hM hN e
 .have e':φ.k p=some cs':=e
  obtain⟨ty',h7⟩:=k.con p cs' e'
  exact⟨ty',by rw[g.old p (fun e''=>by have:=k.sep b L hgs hL;rw[←e'',e'] at this;cases this)];exact h7⟩
 .show φ.k M.b=none
  by_cases en:n=h.next
  .subst en
   rw[Phi.add_same] at hM
   cases hM
   exact k.sep b L hgs hL
  .rw [Phi.add_ne _ _ en] at hM
   exact k.sep n M (hother n en hn).2 hM
theorem Rel.kill (k:Rel A φ h w) (hgs:(h.get b).isSome=true):Step (fun n=>n=b) φ φ h (h.put b none) w w/\Rel A φ (h.put b none) w:=by
 obtain⟨e1,e2⟩:=Hp.get_isSome hgs
 have hget:∀ n,n≠b->(h.put b none).get n=h.get n:=fun n hn=>by
  rw[Hp.get_eq,Hp.get_eq,k.wf.put_ne e2 _ hn,Hp.hid_put]
 have hgb:(h.put b none).get b=none:=by
  rw[Hp.get_eq,k.wf.put_same e2];split<;>rfl
 have hother:∀ n,((h.put b none).get n).isSome=true->n≠b/\(h.get n).isSome=true:=fun n hs=>by
  by_cases e:n=b
  .subst e;rw[hgb] at hs;cases hs
  .rw [hget n e] at hs;exact⟨e,hs⟩
 refine⟨⟨Abs.put k.wf hgs none,fun _ _=>rfl,fun _ _ e=>e,fun _ _ e=>.inl e,rfl,rfl,rfl,f0d _,fun _ _ _=>rfl,fun n L a _ c=>by rw[k.dom n a] at c;cases c⟩,⟨k.wf.put e2 _,by simpa using k.dom,fun n y hy=>?_,fun n m L M hn hm=>k.inj n m L M (hother n hn).2 (hother m hm).2,k.con,fun n L hn hL=>k.sep n L (hother n hn).2 hL⟩⟩
 obtain⟨hb,_⟩:=hother n (by rw[hy];rfl)
 rw[hget n hb] at hy
 exact k.blk n y hy
def Phi.cst (φ:Phi) (b:Nat) (c:Array Value):Phi:=⟨φ.m,fun p=>(φ.k p).or (if p=b then some c else none),φ.g.mono (fun p cs e=>by rw[e];rfl)⟩
theorem Phi.cst_same (φ:Phi) (b:Nat) (c:Array Value) (h:φ.k b=none):(φ.cst b c).k b=some c:=by simp[Phi.cst,h]
theorem Rel.cst (k:Rel A φ h w) {c:Array Value} {ty:TypeId} (g:Grown w w' c ty):Step W φ (φ.cst w.heap.size c) h h w w'/\Rel A (φ.cst w.heap.size c) h w':=by
 have hkn:φ.k w.heap.size=none:=by
  cases e:φ.k w.heap.size with
  | none=>rfl
  | some cs=>exact absurd (k.conLt e) (by omega)
 have hk:∀ b cs,φ.k b=some cs->(φ.cst w.heap.size c).k b=some cs:=fun b cs e=>by
  show(φ.k b).or (if b=w.heap.size then some c else none)=some cs
  rw[e];rfl
 have hle:φ.le (φ.cst w.heap.size c):=⟨fun _ _ e=>e,hk⟩
 refine⟨⟨Abs.refl W k.wf,fun _ _=>rfl,hk,fun b cs e=>?_,g.os,g.tape,g.output,by rw[g.size];omega,fun b hb _=>g.old b hb,fun n L hn _ hL=>by rw[show(φ.cst w.heap.size c) n=φ n from rfl,k.dom n hn] at hL;cases hL⟩,⟨k.wf,k.dom,fun n x hx=>?_,k.inj,fun b cs e=>?_,fun n L hn hL=>?_⟩⟩
 .have e':(φ.k b).or (if b=w.heap.size then some c else none)=some cs:=e
  cases hq:φ.k b with
  | some x=>rw[hq] at e';exact .inl e'
  | none =>
   rw[hq,Option.none_or] at e'
   split at e'
   .rename_i h1;exact .inr (by omega)
   .cases e'
 .refine ((k.blk n x hx).mono hle).world (fun L hL=>g.old _ ?_)
  obtain⟨L',hL',hb⟩:=(k.blk n x hx).some_loc
  rw[show(φ.cst w.heap.size c) n=φ n from rfl,hL'] at hL
  cases hL
  exact hb
 .have e':(φ.k b).or (if b=w.heap.size then some c else none)=some cs:=e
  cases hq:φ.k b with
  | some x =>
   rw[hq] at e'
   cases e'
   obtain⟨ty',h3⟩:=k.con b cs hq
   exact⟨ty',by rw[g.old b (k.conLt hq)];exact h3⟩
  | none =>
   rw[hq,Option.none_or] at e'
   split at e'
   .rename_i h1
    cases e'
    exact⟨(ty,0,0),by rw[h1];exact g.new⟩
   .cases e'
 .obtain ⟨L',hL',hb⟩:=k.loc hn
  have e:L'=L:=Option.some.inj (hL'.symm.trans hL)
  subst e
  show(φ.k L'.b).or (if L'.b=w.heap.size then some c else none)=none
  rw[if_neg (by omega),Option.or_none]
  exact k.sep n L' hn hL'
end
def qtd:TypeDesc->Bool
 | .struct _=>true
 | .array _ _=>true
 | _=>false
def j6r (P:Program) (d:TypeDesc):TK->Prop
 | .int k=>d=.int k
 | .bool=>d=.bool
 | .slice e=>d=.slice e
 | .array n e=>d=.array n e
 | .struct fs=>∃ fields:Array Field,d=.struct fields/\fs=fields.toList.map (fun f=>(f.offset,f.type))/\∀ f∈fields.toList,∃ i,P.info? f.type=some i
 | .map k e=>d=.map k e
 | .ptr e=>d=.pointer e
 | .str=>d=.string
 | .ifc=>∃ ms,d=.interface ms
 | .other=>True
def jgv (P:Program) (g:TypeId->Option (List Bool)):List Field->Nat->Option (List Bool)
 | [],_=>some []
 | f::r,off=>if f.name="_" then none else if f.offset≠off then none else match g f.type,P.info? f.type with
  | some s,some i=>if i.size=s.length/\s.length≠0 then (match jgv P g r (off+s.length) with
   | some l=>some (s++l)
   | none=>none) else none
  | _,_=>none
def jgl (P:Program):Nat->TypeId->Option (List Bool)
 | 0,_=>none
 | d+1,t=>match P.underlying t with
  | some .bool=>some [true]
  | some (.int _)=>some [false]
  | some (.struct fs)=>if P.stoodInHeld t then none else jgv P (jgl P d) fs.toList 0
  | some (.array n e)=>if jgl P d e=some [false]/\(P.info? e).map (fun i=>i.size)=some 1 then some (List.replicate n false) else none
  | _=>none
def j19:Value->Bool
 | .agg _=>true
 | _=>false
structure TIok (P:Program) (t:TypeId) (ti:TI):Prop where
 ex:∃ i z d,P.info? t=some i/\i.zero=some z/\i.size=ti.size/\i.bytes=ti.bytes/\(∀ A φ,All2 (cS A φ) ti.zero z.cells.toList)/\P.underlying t=some d/\ti.agg=qtd d/\j6r P d ti.kind/\ti.zero.length=ti.size
 eq:∀ sig,ti.eq=some sig->jgl P 10000 t=some sig/\P.eqGuardType P.depth t=false
 shape:∀ i z,P.info? t=some i->i.zero=some z->j19 z=ti.agg
def Tys (P:Program) (T:Tr TI):Prop:=∀ t ti,jh1 T t=some ti->TIok P t ti
section
variable {P:Program} {w:World} {t:TypeId} {ti:TI}
theorem TIok.run_size (k:TIok P t ti):(sizeOf t).run P w=.ok ti.size w:=by
 obtain⟨i,z,d,h1,h2,h3,_⟩:=k.ex
 simp[sizeOf,typeInfo,h1,h3]
theorem TIok.run_zero (k:TIok P t ti):∃ z,(zeroValue t).run P w=.ok z w/\(∀ A φ,All2 (cS A φ) ti.zero z.cells.toList)/\ti.zero.length=ti.size:=by
 obtain⟨i,z,d,h1,h2,h3,h4,h5,_,_,_,h6⟩:=k.ex
 exact⟨z,by simp[zeroValue,typeInfo,h1,h2],h5,h6⟩
theorem TIok.run_agg (k:TIok P t ti):(isAgg t).run P w=.ok ti.agg w:=by
 obtain⟨i,z,d,h1,h2,h3,h4,h5,h6,h7,_⟩:=k.ex
 simp only[isAgg,Sem.run_bind,run_underlying h6,Result.andThen_ok,h7]
 cases d<;>rfl
theorem TIok.und (k:TIok P t ti):∃ d,P.underlying t=some d/\j6r P d ti.kind:=by
 obtain⟨i,z,d,_,_,_,_,_,h6,_,h7,_⟩:=k.ex
 exact⟨d,h6,h7⟩
theorem jbl {T:Tr TI} (hT:Tys P T) {x:TypeId×TI} (h:jbw T t=some x):P.underlying t=some (.slice x.1)/\TIok P x.1 x.2/\x.2.size≠0:=by
 unfold jbw at h
 split at h
 .rename_i ti hti
  split at h
  .rename_i e he
   split at h
   .rename_i z hz
    cases hb:Nat.beq z.size 0 with
    | true=>rw[hb] at h;cases h
    | false =>
     rw[hb] at h
     cases h
     obtain⟨d,h1,h2⟩:=(hT t ti hti).und
     rw[he] at h2
     exact⟨h1.trans (congrArg some h2),hT _ _ hz,fun e=>by simp at e;rw[e] at hb;cases hb⟩
   .cases h
  .cases h
 .cases h
theorem jh7 {T:Tr TI} (hT:Tys P T) {x:Nat×TI} (h:jly T t=some x):∃ e,P.underlying t=some (.array x.1 e)/\TIok P e x.2/\x.2.size≠0:=by
 unfold jly at h
 split at h
 .rename_i ti hti
  split at h
  .rename_i n e he
   split at h
   .rename_i z hz
    cases hb:Nat.beq z.size 0 with
    | true=>rw[hb] at h;cases h
    | false =>
     rw[hb] at h
     cases h
     obtain⟨d,h1,h2⟩:=(hT t ti hti).und
     rw[he] at h2
     exact⟨e,h1.trans (congrArg some h2),hT _ _ hz,fun e=>by simp at e;rw[e] at hb;cases hb⟩
   .cases h
  .cases h
 .cases h
theorem jji {T:Tr TI} (hT:Tys P T) (h:jc7 T t=true):P.underlying t=some .string:=by
 unfold jc7 at h
 split at h
 .rename_i ti hti
  split at h
  .rename_i he
   obtain⟨d,h1,h2⟩:=(hT t ti hti).und
   rw[he] at h2
   exact h1.trans (congrArg some h2)
  .cases h
 .cases h
theorem jke {T:Tr TI} (hT:Tys P T) {f:Nat} {x:Nat×TI} (h:jn5 T t f=some x):∃ fields:Array Field,∃ fd:Field,P.underlying t=some (.struct fields)/\fields[f]?=some fd/\fd.offset=x.1/\TIok P fd.type x.2/\x.2.size≠0:=by
 unfold jn5 at h
 split at h
 .rename_i ti hti
  split at h
  .rename_i fs he
   split at h
   .rename_i p hp
    split at h
    .rename_i z hz
     cases hb:Nat.beq z.size 0 with
     | true=>rw[hb] at h;cases h
     | false =>
      rw[hb] at h
      cases h
      obtain⟨d,h1,h2⟩:=(hT t ti hti).und
      rw[he] at h2
      obtain⟨fields,rfl,rfl,_⟩:=h2
      rw[f09] at hp
      obtain⟨fd,hfd,rfl⟩:=f0a.1 hp
      exact⟨fields,fd,h1,by simpa using hfd,rfl,hT _ _ hz,fun e=>by simp at e;rw[e] at hb;cases hb⟩
    .cases h
   .cases h
  .cases h
 .cases h
end
section
variable {β:Type} {A:Nat->Int} {φ:Phi}
theorem jhf {e:Option β} {x:AV} {f:SV->Option β} {r:β} (h:svc e x f=some r):(∃ s,x=.s s/\f s=some r)∨(x=.undef/\e=some r):=by
 cases x with
 | s x=>exact .inl ⟨x,rfl,h⟩
 | undef=>exact .inr ⟨rfl,h⟩
 | _=>cases h
theorem jca {x:AV} {f:SV->Option β} {r:β} (h:svc none x f=some r):∃ s,x=.s s/\f s=some r :=
 (jhf h).elim id (fun h=>by cases h.2)
theorem jh8 {v:SV} {f:IntKind->Int->Option β} {r:β} (h:j6c v f=some r):∃ k n,v=.int k n/\f k n=some r:=by
 cases v with
 | int k n=>exact⟨k,n,rfl,h⟩
 | _=>cases h
theorem jd3 {x:AV} {f:IntKind->Int->Option β} {r:β} (h:jn3 x f=some r):∃ k n,x=.s (.int k n)/\f k n=some r:=by
 obtain⟨s,rfl,h⟩:=jca h
 obtain⟨k,n,rfl,h⟩:=jh8 h
 exact⟨k,n,rfl,h⟩
theorem jgw {v:SV} {f:Bool->Option β} {r:β} (h:jnu v f=some r):∃ b,v=.bool b/\f b=some r:=by
 cases v with
 | bool b=>exact⟨b,rfl,h⟩
 | _=>cases h
theorem jcx {x:AV} {f:Bool->Option β} {r:β} (h:jhe x f=some r):∃ b,x=.s (.bool b)/\f b=some r:=by
 obtain⟨s,rfl,h⟩:=jca h
 obtain⟨b,rfl,h⟩:=jgw h
 exact⟨b,rfl,h⟩
theorem jkf {x:AV} {f:Nat->Nat->Option β} {r:β} (h:jws x f=some r):∃ b o,x=.s (.ptr b o)/\f b o=some r:=by
 obtain⟨s,rfl,h⟩:=jca h
 cases s with
 | ptr b o=>exact⟨b,o,rfl,h⟩
 | _=>cases h
theorem jo4 {x:AV} {e:Option β} {f:Nat->Nat->Nat->Nat->Bool->Nat->Option β} {r:β} (h:jhv x e f=some r):(x=.s .nilSlice/\e=some r)∨∃ b o n m ex sz,x=.s (.slice b o n m ex sz)/\f b o n m ex sz=some r:=by
 obtain⟨s,rfl,h⟩:=jca h
 cases s with
 | slice b o n m ex sz=>exact .inr ⟨b,o,n,m,ex,sz,rfl,h⟩
 | nilSlice=>exact .inl ⟨rfl,h⟩
 | _=>cases h
theorem jb6 {x:AV} {f:Nat->Nat->Option β} {g:List SV->Option β} {r:β} (h:jev x f g=some r):(∃ b o,x=.s (.ptr b o)/\f b o=some r)∨∃ cs,x=.s (.cp cs)/\g cs=some r:=by
 obtain⟨s,rfl,h⟩:=jca h
 cases s with
 | ptr b o=>exact .inl ⟨b,o,rfl,h⟩
 | cp cs=>exact .inr ⟨cs,rfl,h⟩
 | _=>cases h
theorem jay {x:AV} {e:Option β} {f:Nat->Nat->Nat->Nat->Bool->Nat->Option β} {g:List (List SV)->Option β} {z:Option β} {r:β} (h:jcz x e f g z=some r) :
 (x=.s .nilSlice/\e=some r)∨(∃ b o n m ex sz,x=.s (.slice b o n m ex sz)/\f b o n m ex sz=some r)∨(∃ rows,x=.s (.lst rows)/\g rows=some r)∨(x=.s .emp/\z=some r):=by
 obtain⟨s,rfl,h⟩:=jca h
 cases s with
 | slice b o n m ex sz=>exact .inr (.inl ⟨b,o,n,m,ex,sz,rfl,h⟩)
 | nilSlice=>exact .inl ⟨rfl,h⟩
 | lst rows=>exact .inr (.inr (.inl ⟨rows,rfl,h⟩))
 | emp=>exact .inr (.inr (.inr ⟨rfl,h⟩))
 | _=>cases h
theorem je2 {A:Nat->Int} {k:Nat->Option (Array Value)} {v:Value} (h:cD A k (.lst rows) v) :
 ∃ ad cap,v=.slice (some ad) rows.length cap/\rows.length<=cap/\(rows=[]∨∃ b o sz cs,k b=some cs/\ad=⟨b,o,none⟩/\(∀ (i:Nat) (row:List SV),rows[i]?=some row->row.length=sz) /\
  ∀ (i j:Nat) (row:List SV) (x:SV),rows[i]?=some row->row[j]?=some x->∃ u,cs[o+i*sz+j]?=some u/\cD A k x u):=by
 cases h with
 | lst0 ad cap=>exact⟨ad,cap,rfl,f14 _,.inl rfl⟩
 | lst _ b o cap sz cs g h1 h2 h3 h4 h5=>exact⟨_,cap,rfl,h2,.inr ⟨b,o,sz,cs,h1,rfl,h3,fun i j row x hr hx=>⟨_,h4 i j row x hr hx,h5 i j row x hr hx⟩⟩⟩
theorem qcl {A:Nat->Int} {k:Nat->Option (Array Value)} {o sz cap lo n:Nat} {cs:Array Value} (h1:k b=some cs) (h2:rows.length<=cap) (h3:∀ (i:Nat) (row:List SV),rows[i]?=some row->row.length=sz)
 (h4:∀ (i j:Nat) (row:List SV) (x:SV),rows[i]?=some row->row[j]?=some x->∃ u,cs[o+i*sz+j]?=some u/\cD A k x u) (h5:lo+n<=rows.length) :
 cD A k (.lst ((rows.drop lo).take n)) (.slice (some ⟨b,o+lo*sz,none⟩) n (cap - lo)):=by
 have hl:((rows.drop lo).take n).length=n:=by simp;omega
 have hg:∀ (i:Nat) (row:List SV),((rows.drop lo).take n)[i]?=some row->rows[lo+i]?=some row:=fun i row h=>by
  rw[f15] at h
  split at h
  .rwa [f1f] at h
  .cases h
 have key:∀ (i j:Nat),∃ u,∀ (row:List SV) (x:SV),rows[lo+i]?=some row->row[j]?=some x->cs[o+(lo+i)*sz+j]?=some u/\cD A k x u:=fun i j=>by
  cases hr:rows[lo+i]? with
  | none=>exact⟨undef,fun _ _ h=>by cases h⟩
  | some row =>
   cases hx:row[j]? with
   | none=>exact⟨undef,fun row' x h h'=>by cases h;rw[hx] at h';cases h'⟩
   | some x =>
    obtain⟨u,a,b⟩:=h4 _ _ _ _ hr hx
    exact⟨u,fun row' x' h h'=>by cases h;rw[hx] at h';cases h';exact⟨a,b⟩⟩
 have e:∀ i j,o+lo*sz+i*sz+j=o+(lo+i)*sz+j:=fun i j=>by rw[f28];omega
 rw[show(Value.slice (some ⟨b,o+lo*sz,none⟩) n (cap - lo))=.slice (some ⟨b,o+lo*sz,none⟩) ((rows.drop lo).take n).length (cap - lo) by rw[hl]]
 refine .lst _ b (o+lo*sz) (cap - lo) sz cs (fun i j=>Classical.choose (key i j)) h1 (by rw[hl];omega) (fun i row h=>h3 _ _ (hg i row h)) (fun i j row x hr hx=>?_) (fun i j row x hr hx=>?_)
 .rw [e];exact(Classical.choose_spec (key i j) row x (hg i row hr) hx).1
 .exact (Classical.choose_spec (key i j) row x (hg i row hr) hx).2
theorem jw3 {x:AV} {e:Option β} {f:Nat->Option β} {r:β} (h:qhi x e f=some r):(x=.s .nilMap/\e=some r)∨∃ b,x=.s (.map b)/\f b=some r:=by
 obtain⟨s,rfl,h⟩:=jca h
 cases s with
 | map b=>exact .inr ⟨b,rfl,h⟩
 | nilMap=>exact .inl ⟨rfl,h⟩
 | _=>cases h
theorem jee {x:AV} {f:FuncId->List (Nat×Nat)->Option β} {r:β} (h:jwu x f=some r):∃ g cs,x=.s (.func g cs)/\f g cs=some r:=by
 obtain⟨s,rfl,h⟩:=jca h
 cases s with
 | func g cs=>exact⟨g,cs,rfl,h⟩
 | _=>cases h
theorem jfa {x:AV} {n:Nat} {f:Nat->Option β} {r:β} (h:below x n f=some r):∃ k,∃ m:Nat,x=.s (.int k m)/\m<n/\f m=some r:=by
 obtain⟨k,i,rfl,h⟩:=jd3 h
 cases i with
 | ofNat m =>
  obtain⟨h1,h2⟩:=jab.1 h
  exact⟨k,m,rfl,f0g h1,h2⟩
 | negSucc m=>cases h
theorem jfi {x:AV} {f:Nat->Option β} {r:β} (h:qe2 x f=some r):∃ m:Nat,x=.s (.int .i64 m)/\f m=some r:=by
 obtain⟨k,i,rfl,h⟩:=jd3 h
 obtain⟨h1,h2⟩:=jab.1 h
 cases i with
 | ofNat m=>exact⟨m,by rw[jfh h1]<;>rfl,h2⟩
 | negSucc m=>cases h2
theorem j2a {v:SV} {f:Sx->Option β} {r:β} (h:vSx v f=some r):∃ e,(∀ A φ x,cS A φ v x->x=.int .i64 (den A e))/\f e=some r:=by
 cases v with
 | int k n =>
  obtain⟨h1,h2⟩:=jab.1 h
  exact⟨_,fun A φ x hx=>by rw[jfh h1] at hx;exact hx,h2⟩
 | sym e=>exact⟨e,fun A φ x hx=>hx,h⟩
 | _=>cases h
theorem jsc {e:Sx} {f:Int->Option β} {r:β} (h:qhh e f=some r):∃ n,e=.lit n/\f n=some r:=by
 cases e with
 | lit n=>exact⟨n,rfl,h⟩
 | _=>cases h
end
section
variable {P:Program} {w:World} {A:Nat->Int} {φ:Phi}
def cBO:BO->BinOp
 | .add=>.add | .sub=>.sub | .mul=>.mul | .quo=>.quo | .rem=>.rem | .eq=>.eql | .ne=>.neq | .lt=>.lss | .le=>.leq | .gt=>.gtr | .ge=>.geq
 | .and=>.and | .or=>.or | .andNot=>.andNot | .shl=>.shl | .shr=>.shr
theorem j6s {op:BinOp} {o:BO} (h:qs9 op=some o):op=cBO o:=by
 cases op<;>simp[qs9] at h<;>subst h<;>rfl
theorem jkg {k:IntKind} {n:Int} (h:j6a k n=some v):v=.s (.int k n)/\k.wrap n=n:=by
 obtain⟨h1,h2⟩:=jab.1 h
 exact⟨(Option.some.inj h2).symm,jkd h1⟩
theorem jo5 {k:IntKind} {n:Int} (h:qb9 k n=some v):v=.s (.int k (k.wrap n)):=by
 have h':oif (inR k n) (some (AV.s (.int k n))) (oif (jos k) (some (.s (.int k (IntKind.wrap .i64 n)))) none)=some v:=h
 rw[jap] at h'
 split at h'
 .rename_i h1;cases h';rw[jkd h1]
 .obtain ⟨h1,h2⟩:=jab.1 h'
  cases h2
  rw[jfh h1]
theorem j2b {b:Int} {f:Nat->Nat->Option AV} (h:nn2 a b f=some v):∃ m n:Nat,a=m/\b=n/\f m n=some v:=by
 cases a with
 | ofNat m=>cases b with
  | ofNat n=>exact⟨m,n,rfl,rfl,h⟩
  | negSucc n=>cases h
 | negSucc m=>cases h
theorem jtn {b:Int} {f g:Nat->Nat->Option AV} (h:nn3 a b f g=some v):∃ m n:Nat,b=n/\((a=m/\f m n=some v)∨(a=Int.negSucc m/\g m n=some v)):=by
 cases a with
 | ofNat m=>cases b with
  | ofNat n=>exact⟨m,n,rfl,.inl ⟨rfl,h⟩⟩
  | negSucc n=>cases h
 | negSucc m=>cases b with
  | ofNat n=>exact⟨m,n,rfl,.inr ⟨rfl,h⟩⟩
  | negSucc n=>cases h
theorem jo6 (h:inR .i64 (Int.negSucc m)=true):m<9223372036854775808:=by
 rcases jdt h with⟨_,a,b⟩ | ⟨e,_⟩ | ⟨e,_⟩
 .omega
 .cases e
 .cases e
theorem qe4:BitVec.ofInt 64 (Int.negSucc m) = ~~~ BitVec.ofNat 64 m:=by
 apply BitVec.eq_of_toInt_eq
 rw[BitVec.toInt_ofInt,BitVec.toInt_not,BitVec.toNat_ofNat]
 have h:(2:Int) ^ 64=18446744073709551616:=by decide
 have h2:(2:Nat) ^ 64=18446744073709551616:=by decide
 rw[h,h2,Int.bmod_def,Int.bmod_def]
 split<;>split<;>omega
theorem jh9 {k:IntKind} (h:inR k (.ofNat m)=true):m<2 ^ k.bits/\(BitVec.ofInt k.bits (m:Int)).toNat=m/\(∀ l:Nat,l<=m->k.wrap l=l):=by
 rcases jdt h with⟨rfl,h1,h2⟩ | ⟨rfl,h1,h2⟩ | ⟨rfl,h1,h2⟩ <;>
  (refine⟨by simp[IntKind.bits] at *;omega,by simp[IntKind.bits,BitVec.toNat_ofInt] at *;omega,fun l hl=>?_⟩;simp[IntKind.wrap,IntKind.bits,IntKind.signed] at *;omega)
theorem jto {k:IntKind} {n:Nat} (h:qca k n=true):min n k.bits=n:=by
 unfold qca at h
 simp only[jap] at h
 split at h
 .rename_i h1;have:=f0g h1;cases k<;>simp[IntKind.bits]<;>omega
 .split at h
  .rename_i h2
   have:=f0g h2
   split at h
   .rename_i h3;rw[jfh h3];simp[IntKind.bits];omega
   .rw [j6q h];simp[IntKind.bits];omega
  .cases h
theorem jia {n:Nat} (x y:BitVec n):(x &&& ~~~y).toNat=x.toNat ^^^ (x.toNat &&& y.toNat):=by
 have:x &&& ~~~y=x ^^^ (x &&& y):=by
  apply BitVec.eq_of_getLsbD_eq
  intro i hi
  simp only[BitVec.getLsbD_and,BitVec.getLsbD_not,BitVec.getLsbD_xor,hi,decide_true,Bool.true_and]
  cases x.getLsbD i<;>cases y.getLsbD i<;>rfl
 rw[this,BitVec.toNat_xor,BitVec.toNat_and]
theorem qo7 {k:IntKind} {n:Nat} (h1:inR k (.ofNat m)=true) (h2:inR k (.ofNat n)=true):k.wrap ((m ||| n:Nat):Int)=((m ||| n:Nat):Int):=by
 rcases jdt h1 with⟨rfl,a1,a2⟩ | ⟨rfl,a1,a2⟩ | ⟨rfl,a1,a2⟩ <;>
 rcases jdt h2 with⟨e,b1,b2⟩ | ⟨e,b1,b2⟩ | ⟨e,b1,b2⟩<;>first | (cases e;done) | skip
 .have:=Nat.or_lt_two_pow (x:=m) (y:=n) (n:=63) (by simp at *;omega) (by simp at *;omega)
  simp[IntKind.wrap,IntKind.bits,IntKind.signed] at *;omega
 .have:=Nat.or_lt_two_pow (x:=m) (y:=n) (n:=8) (by simp at *;omega) (by simp at *;omega)
  simp[IntKind.wrap,IntKind.bits,IntKind.signed] at *;omega
 .have:=Nat.or_lt_two_pow (x:=m) (y:=n) (n:=64) (by simp at *;omega) (by simp at *;omega)
  simp[IntKind.wrap,IntKind.bits,IntKind.signed] at *;omega
theorem jo7 {o:BO} {k k':IntKind} {b:Int} (h:jwt o k a b=some v) (hk:k=k'∨shk o=true) (t:TypeId) :
 ∃ rv,(Go.binOp (cBO o) t (.int k a) (.int k' b)).run P w=.ok rv w/\cV A φ v rv:=by
 cases o
 case add=>obtain rfl:=hk.resolve_right (by intro h;cases h);obtain rfl:=jo5 (show qb9 k (qey a b)=some v from h);exact⟨_,by simp[Go.binOp,cBO,Op.intArith]<;>rfl,by rw[jtk];rfl⟩
 case sub=>obtain rfl:=hk.resolve_right (by intro h;cases h);obtain rfl:=jo5 (show qb9 k (a - b)=some v from h);exact⟨_,by simp[Go.binOp,cBO,Op.intArith]<;>rfl,rfl⟩
 case mul=>obtain rfl:=hk.resolve_right (by intro h;cases h);obtain rfl:=jo5 (show qb9 k (a*b)=some v from h);exact⟨_,by simp[Go.binOp,cBO,Op.intArith]<;>rfl,rfl⟩
 case quo =>
  obtain rfl:=hk.resolve_right (by intro h;cases h)
  have h':oif (ieq b 0) none (j6a k (a.tdiv b))=some v:=h
  rw[jap] at h'
  split at h'
  .cases h'
  .rename_i h0
   rw[jc0] at h0
   have hb:¬ b=0:=by simpa using h0
   obtain⟨rfl,e⟩:=jkg h'
   exact⟨_,by simp[Go.binOp,cBO,Op.intDiv,hb,e]<;>rfl,rfl⟩
 case rem =>
  obtain rfl:=hk.resolve_right (by intro h;cases h)
  have h':oif (ieq b 0) none (j6a k (a.tmod b))=some v:=h
  rw[jap] at h'
  split at h'
  .cases h'
  .rename_i h0
   rw[jc0] at h0
   have hb:¬ b=0:=by simpa using h0
   obtain⟨rfl,e⟩:=jkg h'
   exact⟨_,by simp[Go.binOp,cBO,Op.intDiv,hb]<;>rfl,rfl⟩
 case eq=>obtain rfl:=hk.resolve_right (by intro h;cases h);cases (show some (AV.s (.bool (ieq a b)))=some v from h);exact⟨_,by simp[Go.binOp,cBO,Op.intCmp]<;>rfl,by rw[jc0];first | rfl | exact congrArg _ (by rw[f1z];simp)⟩
 case ne=>obtain rfl:=hk.resolve_right (by intro h;cases h);cases (show some (AV.s (.bool (jhd (ieq a b))))=some v from h);exact⟨_,by simp[Go.binOp,cBO,Op.intCmp]<;>rfl,by rw[jc0,jgk];exact congrArg _ (by rw[f1z];simp)⟩
 case lt=>obtain rfl:=hk.resolve_right (by intro h;cases h);cases (show some (AV.s (.bool (jhd (ile b a))))=some v from h);exact⟨_,by simp[Go.binOp,cBO,Op.intCmp]<;>rfl,by rw[jd2,jgk];exact congrArg _ (by rw[f1z];simp)⟩
 case le=>obtain rfl:=hk.resolve_right (by intro h;cases h);cases (show some (AV.s (.bool (ile a b)))=some v from h);exact⟨_,by simp[Go.binOp,cBO,Op.intCmp]<;>rfl,by rw[jd2];first | rfl | exact congrArg _ (by rw[f1z];simp)⟩
 case gt=>obtain rfl:=hk.resolve_right (by intro h;cases h);cases (show some (AV.s (.bool (jhd (ile a b))))=some v from h);exact⟨_,by simp[Go.binOp,cBO,Op.intCmp]<;>rfl,by rw[jd2,jgk];exact congrArg _ (by rw[f1z];simp)⟩
 case ge=>obtain rfl:=hk.resolve_right (by intro h;cases h);cases (show some (AV.s (.bool (ile b a)))=some v from h);exact⟨_,by simp[Go.binOp,cBO,Op.intCmp]<;>rfl,by rw[jd2];first | rfl | exact congrArg _ (by rw[f1z];simp)⟩
 case and =>
  obtain rfl:=hk.resolve_right (by intro h;cases h)
  obtain⟨m,n,rfl,⟨rfl,h⟩ | ⟨rfl,h⟩⟩:=jtn h
  .obtain ⟨h1,h⟩:=jab.1 h
   obtain⟨h2,h⟩:=jab.1 h
   cases h
   obtain⟨a1,a2,a3⟩:=jh9 h1
   obtain⟨b1,b2,b3⟩:=jh9 h2
   refine⟨.int k ((m &&& n:Nat):Int),?_,rfl⟩
   simp only[Go.binOp,cBO,Op.intBits,ne_eq,not_true_eq_false,if_false,Sem.run_pure,BitVec.toNat_and,a2,b2]
   rw[a3 _ Nat.and_le_left]
  .obtain ⟨h0,h⟩:=jab.1 h
   obtain⟨h1,h⟩:=jab.1 h
   obtain⟨h2,h⟩:=jab.1 h
   cases h
   obtain rfl:=jfh h0
   obtain⟨b1,b2,b3⟩:=jh9 h2
   have hm:m<2 ^ 64:=by have:=jo6 h1;omega
   have e1:(BitVec.ofInt 64 (Int.negSucc m) &&& BitVec.ofInt 64 (n:Int)).toNat=n ^^^ (n &&& m):=by
    rw[qe4,BitVec.and_comm,jia,BitVec.toNat_ofNat,f3h hm]
    have b2':(BitVec.ofInt 64 (n:Int)).toNat=n:=b2
    rw[b2']
   refine⟨.int .i64 ((n ^^^ (n &&& m):Nat):Int),?_,rfl⟩
   have hle:n ^^^ (n &&& m)<=n:=by
    have b2':(BitVec.ofInt 64 (n:Int)).toNat=n:=b2
    rw[←e1,BitVec.toNat_and,b2'];exact Nat.and_le_right
   simp only[Go.binOp,cBO,Op.intBits,ne_eq,not_true_eq_false,if_false,Sem.run_pure]
   rw[show IntKind.bits .i64=64 from rfl,e1,b3 _ hle]
 case or =>
  obtain rfl:=hk.resolve_right (by intro h;cases h)
  obtain⟨m,n,rfl,⟨rfl,h⟩ | ⟨rfl,h⟩⟩:=jtn h
  .obtain ⟨h1,h⟩:=jab.1 h
   obtain⟨h2,h⟩:=jab.1 h
   cases h
   obtain⟨a1,a2,a3⟩:=jh9 h1
   obtain⟨b1,b2,b3⟩:=jh9 h2
   refine⟨.int k ((m ||| n:Nat):Int),?_,rfl⟩
   simp only[Go.binOp,cBO,Op.intBits,ne_eq,not_true_eq_false,if_false,Sem.run_pure,BitVec.toNat_or,a2,b2]
   rw[qo7 h1 h2]
  .obtain ⟨h0,h⟩:=jab.1 h
   obtain⟨h1,h⟩:=jab.1 h
   obtain⟨h2,h⟩:=jab.1 h
   cases h
   obtain rfl:=jfh h0
   obtain⟨b1,b2,b3⟩:=jh9 h2
   have hm:m<2 ^ 63:=by have:=jo6 h1;omega
   have b2':(BitVec.ofInt 64 (n:Int)).toNat=n:=b2
   have hle:m ^^^ (m &&& n)<=m:=by
    have e:=jia (BitVec.ofNat 64 m) (BitVec.ofInt 64 (n:Int))
    rw[BitVec.toNat_ofNat,f3h (by omega),b2'] at e
    rw[←e,BitVec.toNat_and,BitVec.toNat_ofNat,f3h (by omega)]
    exact Nat.and_le_left
   have e1:(BitVec.ofInt 64 (Int.negSucc m) ||| BitVec.ofInt 64 (n:Int)).toNat=2 ^ 64 - 1 - (m ^^^ (m &&& n)):=by
    have e2:BitVec.ofInt 64 (Int.negSucc m) ||| BitVec.ofInt 64 (n:Int) = ~~~ (BitVec.ofNat 64 m &&& ~~~ BitVec.ofInt 64 (n:Int)):=by
     rw[qe4]
     apply BitVec.eq_of_getLsbD_eq
     intro i hi
     simp only[BitVec.getLsbD_and,BitVec.getLsbD_not,BitVec.getLsbD_or,hi,decide_true,Bool.true_and]
     cases (BitVec.ofNat 64 m).getLsbD i<;>cases (BitVec.ofInt 64 (n:Int)).getLsbD i<;>rfl
    rw[e2,BitVec.toNat_not,jia,BitVec.toNat_ofNat,f3h (by omega),b2']
   refine⟨.int .i64 (Int.negSucc (m ^^^ (m &&& n))),?_,rfl⟩
   simp only[Go.binOp,cBO,Op.intBits,ne_eq,not_true_eq_false,if_false,Sem.run_pure]
   rw[show IntKind.bits .i64=64 from rfl,e1]
   generalize m ^^^ (m &&& n)=q at hle
   have:IntKind.wrap .i64 ((2 ^ 64 - 1 - q:Nat):Int)=Int.negSucc q:=by
    simp only[IntKind.wrap,IntKind.bits,IntKind.signed]
    have h2:(2:Nat) ^ 64=18446744073709551616:=by decide
    have h3:(2:Nat) ^ 63=9223372036854775808:=by decide
    have:Int.negSucc q=-(q:Int) - 1:=by omega
    simp
    omega
   rw[this]
 case andNot =>
  obtain rfl:=hk.resolve_right (by intro h;cases h)
  obtain⟨m,n,rfl,rfl,h⟩:=j2b h
  obtain⟨h1,h⟩:=jab.1 h
  obtain⟨h2,h⟩:=jab.1 h
  cases h
  obtain⟨a1,a2,a3⟩:=jh9 h1
  obtain⟨b1,b2,b3⟩:=jh9 h2
  refine⟨.int k ((m ^^^ (m &&& n):Nat):Int),?_,rfl⟩
  simp only[Go.binOp,cBO,Op.intBits,ne_eq,not_true_eq_false,if_false,Sem.run_pure,jia,a2,b2]
  have e:m ^^^ (m &&& n)=(BitVec.ofInt k.bits (m:Int) &&& ~~~ BitVec.ofInt k.bits (n:Int)).toNat:=by rw[jia,a2,b2]
  have hle:m ^^^ (m &&& n)<=m:=by
   rw[e,BitVec.toNat_and,a2];exact Nat.and_le_left
  rw[a3 _ hle]
 case shl =>
  obtain⟨m,n,rfl,rfl,h⟩:=j2b h
  obtain⟨h1,h⟩:=jab.1 h
  obtain⟨rfl,e⟩:=jkg h
  have hm:=jto h1
  refine⟨_,?_,rfl⟩
  have e':k.wrap ((m:Int)*2 ^ n)=Int.ofNat (Nat.mul m (Nat.pow 2 n)):=by
   have:((m:Int)*2 ^ n)=Int.ofNat (Nat.mul m (Nat.pow 2 n)):=by
    have:Int.ofNat (Nat.mul m (Nat.pow 2 n))=((m*2 ^ n:Nat):Int):=rfl
    rw[this,Int.natCast_mul,f3c];rfl
   rw[this];exact e
  have hn:¬ ((n:Int)<0):=by omega
  simp only[Go.binOp,cBO,Op.shift,hn,if_false,f1m,hm,Sem.run_pure,e']
 case shr =>
  obtain⟨m,n,rfl,⟨rfl,h⟩ | ⟨rfl,h⟩⟩:=jtn h
  .obtain ⟨h1,h⟩:=jab.1 h
   cases h
   have hm:=jto h1
   refine⟨_,?_,rfl⟩
   have e':(m:Int).fdiv (2 ^ n)=Int.ofNat (Nat.div m (Nat.pow 2 n)):=by
    rw[Int.fdiv_eq_ediv_of_nonneg _ (by exact Int.le_of_lt (Int.pow_pos (by decide)))]
    have:Int.ofNat (Nat.div m (Nat.pow 2 n))=((m / 2 ^ n:Nat):Int):=rfl
    rw[this,Int.natCast_ediv,f3c];rfl
   have hn:¬ ((n:Int)<0):=by omega
   simp only[Go.binOp,cBO,Op.shift,hn,if_false,f1m,hm,Sem.run_pure,e']
  .obtain ⟨h1,h⟩:=jab.1 h
   cases h
   have hm:=jto h1
   refine⟨_,?_,rfl⟩
   have e':(Int.negSucc m).fdiv (2 ^ n)=Int.negSucc (Nat.div m (Nat.pow 2 n)):=by
    obtain⟨q,hq⟩:∃ q,2 ^ n=q+1:=⟨2 ^ n - 1,by have:=Nat.two_pow_pos n;omega⟩
    have h2:(2:Int) ^ n=((q+1:Nat):Int):=by rw[←hq,f3c];rfl
    have h3:Nat.pow 2 n=q+1:=hq
    rw[h2,h3];rfl
   have hn:¬ ((n:Int)<0):=by omega
   simp only[Go.binOp,cBO,Op.shift,hn,if_false,f1m,hm,Sem.run_pure,e']
theorem j2c {l h:Int} {p:Int×Int} (k:rng l h=some p):p=(l,h)/\-9223372036854775808<=l/\h<=9223372036854775807:=by
 obtain⟨h1,h2⟩:=jab.1 k
 obtain⟨h3,h4⟩:=jab.1 h2
 cases h4
 rcases jdt h1 with⟨_,a,_⟩ | ⟨e,_⟩ | ⟨e,_⟩
 .rcases jdt h3 with⟨_,_,b⟩ | ⟨e,_⟩ | ⟨e,_⟩
  .exact ⟨rfl,a,b⟩
  .cases e
  .cases e
 .cases e
 .cases e
theorem jgx:∀ (e:Sx) {p:Int×Int},itv e=some p->p.1<=den A e/\den A e<=p.2
 | .arg i,p,h=>by cases h
 | .lit n,p,h=>by
  cases (show some (n,n)=some p from h)
  exact⟨Int.le_refl _,Int.le_refl _⟩
 | .bnd i m,p,h=>by
  cases (show some (Int.ofNat 0,Int.ofNat m)=some p from h)
  simp only[den]
  split
  .rename_i h1;exact h1
  .exact ⟨Int.le_refl _,Int.natCast_nonneg m⟩
 | .op o a b,p,h=>by
  cases o
  case add =>
   obtain⟨p1,h1,h2⟩:=jaa.1 (show ob (itv a) (fun p=>ob (itv b) (fun q=>rng (qey p.1 q.1) (qey p.2 q.2)))=some p from h)
   obtain⟨p2,h3,h4⟩:=jaa.1 h2
   obtain⟨rfl,h5,h6⟩:=j2c h4
   have ia:=jgx a h1
   have ib:=jgx b h3
   rw[jtk] at h5 h6
   have e:IntKind.i64.wrap (den A a+den A b)=den A a+den A b:=by
    simp[IntKind.wrap,IntKind.bits,IntKind.signed];omega
   simp only[den,e,jtk]
   omega
  case sub =>
   obtain⟨p1,h1,h2⟩:=jaa.1 (show ob (itv a) (fun p=>ob (itv b) (fun q=>rng (p.1 - q.2) (p.2 - q.1)))=some p from h)
   obtain⟨p2,h3,h4⟩:=jaa.1 h2
   obtain⟨rfl,h5,h6⟩:=j2c h4
   have ia:=jgx a h1
   have ib:=jgx b h3
   have e:IntKind.i64.wrap (den A a - den A b)=den A a - den A b:=by
    simp[IntKind.wrap,IntKind.bits,IntKind.signed];omega
   simp only[den,e]
   omega
  all_goals cases h
theorem jef {a b:Sx} {t:Bool} (h:jh2 a b=some t):t=decide (den A a<=den A b):=by
 obtain⟨p,h1,h2⟩:=jaa.1 h
 obtain⟨q,h3,h4⟩:=jaa.1 h2
 have ia:=jgx (A:=A) a h1
 have ib:=jgx (A:=A) b h3
 rw[jap,jd2] at h4
 split at h4
 .rename_i h5
  cases h4
  have h5':=of_decide_eq_true h5
  exact(decide_eq_true (by omega)).symm
 .rw [jap,jd2] at h4
  split at h4
  .cases h4
  .rename_i h6
   cases h4
   have h6':¬ p.1<=q.2:=fun k=>h6 (decide_eq_true k)
   exact(decide_eq_false (by omega)).symm
theorem jo8 {a b:Sx} (h:jtf a b=true):den A a≠den A b:=by
 intro e
 unfold jtf at h
 have l1:∀ t,jh2 a b=some t->t=true:=fun t k=>by rw[jef (A:=A) k];exact decide_eq_true (by omega)
 have l2:∀ t,jh2 b a=some t->t=true:=fun t k=>by rw[jef (A:=A) k];exact decide_eq_true (by omega)
 cases h1:jh2 a b with
 | none =>
  rw[h1] at h
  cases h2:jh2 b a with
  | none=>rw[h2] at h;cases h
  | some t=>rw[h2,l2 t h2] at h;cases h
 | some t =>
  rw[h1,l1 t h1] at h
  cases h2:jh2 b a with
  | none=>rw[h2] at h;cases h
  | some t=>rw[h2,l2 t h2] at h;cases h
theorem jo9 {o:BO} {e e':Sx} (h:jwv o e e'=some v) (t:TypeId) :
 ∃ rv,(Go.binOp (cBO o) t (.int .i64 (den A e)) (.int .i64 (den A e'))).run P w=.ok rv w/\cV A φ v rv:=by
 cases o
 case add=>cases (show some (AV.s (.sym (.op .add e e')))=some v from h);exact⟨_,by simp[Go.binOp,cBO,Op.intArith]<;>rfl,rfl⟩
 case sub=>cases (show some (AV.s (.sym (.op .sub e e')))=some v from h);exact⟨_,by simp[Go.binOp,cBO,Op.intArith]<;>rfl,rfl⟩
 case mul=>cases (show some (AV.s (.sym (.op .mul e e')))=some v from h);exact⟨_,by simp[Go.binOp,cBO,Op.intArith]<;>rfl,rfl⟩
 case quo =>
  obtain⟨n,rfl,h⟩:=jsc h
  rw[jap] at h
  split at h
  .cases h
  .rename_i h0
   rw[jc0] at h0
   have hb:¬ n=0:=by simpa using h0
   cases h
   exact⟨_,by simp[Go.binOp,cBO,Op.intDiv,den,hb]<;>rfl,rfl⟩
 case rem =>
  obtain⟨n,rfl,h⟩:=jsc h
  rw[jap] at h
  split at h
  .cases h
  .rename_i h0
   rw[jc0] at h0
   have hb:¬ n=0:=by simpa using h0
   cases h
   exact⟨_,by simp[Go.binOp,cBO,Op.intDiv,den,hb]<;>rfl,rfl⟩
 case eq =>
  rw[show jwv .eq e e'=oif (j59 e e') (some (.s (.bool true))) (oif (jtf e e') (some (.s (.bool false))) none) from rfl,jap] at h
  split at h
  .rename_i h1
   cases h
   rw[jl0 _ _ h1]
   exact⟨_,by simp[Go.binOp,cBO,Op.intCmp]<;>rfl,rfl⟩
  .obtain ⟨h1,h⟩:=jab.1 h
   cases h
   have h2:=jo8 (A:=A) h1
   exact⟨.bool false,by simp[Go.binOp,cBO,Op.intCmp,h2],rfl⟩
 case ne =>
  rw[show jwv .ne e e'=oif (j59 e e') (some (.s (.bool false))) (oif (jtf e e') (some (.s (.bool true))) none) from rfl,jap] at h
  split at h
  .rename_i h1
   cases h
   rw[jl0 _ _ h1]
   exact⟨_,by simp[Go.binOp,cBO,Op.intCmp]<;>rfl,rfl⟩
  .obtain ⟨h1,h⟩:=jab.1 h
   cases h
   have h2:=jo8 (A:=A) h1
   exact⟨.bool true,by simp[Go.binOp,cBO,Op.intCmp,h2],rfl⟩
 case lt =>
  obtain⟨t,h1,h2⟩:=jaa.1 (show ob (jh2 e' e) (fun t=>some (.s (.bool (jhd t))))=some v from h)
  cases h2
  rw[jef (A:=A) h1,jgk]
  refine⟨.bool (decide (den A e<den A e')),by simp[Go.binOp,cBO,Op.intCmp],?_⟩
  show Value.bool _=.bool _
  congr 1
  rw[f1z]
  simp
 case le =>
  obtain⟨t,h1,h2⟩:=jaa.1 (show ob (jh2 e e') (fun t=>some (.s (.bool t)))=some v from h)
  cases h2
  rw[jef (A:=A) h1]
  exact⟨.bool (decide (den A e<=den A e')),by simp[Go.binOp,cBO,Op.intCmp],rfl⟩
 case gt =>
  obtain⟨t,h1,h2⟩:=jaa.1 (show ob (jh2 e e') (fun t=>some (.s (.bool (jhd t))))=some v from h)
  cases h2
  rw[jef (A:=A) h1,jgk]
  refine⟨.bool (decide (den A e>den A e')),by simp[Go.binOp,cBO,Op.intCmp],?_⟩
  show Value.bool _=.bool _
  congr 1
  rw[f1z]
  simp
 case ge =>
  obtain⟨t,h1,h2⟩:=jaa.1 (show ob (jh2 e' e) (fun t=>some (.s (.bool t)))=some v from h)
  cases h2
  rw[jef (A:=A) h1]
  exact⟨.bool (decide (den A e≥den A e')),by simp[Go.binOp,cBO,Op.intCmp],rfl⟩
 all_goals cases h
theorem jzh {o:BO} {a b:SV} {x y:Value} (h:jep o a b=some v) (hx:cS A φ a x) (hy:cS A φ b y) (t:TypeId) :
 ∃ rv,(Go.binOp (cBO o) t x y).run P w=.ok rv w/\cV A φ v rv:=by
 cases a with
 | int k m =>
  cases (show x=.int k m from hx)
  cases b with
  | int k' n =>
   cases (show y=.int k' n from hy)
   have h':oif (Nat.beq (ikn k) (ikn k')) (jwt o k m n) (oif (shk o) (jwt o k m n) none)=some v:=h
   rw[jap] at h'
   split at h'
   .rename_i h1;exact jo7 h' (.inl (jlz h1)) t
   .obtain ⟨h1,h'⟩:=jab.1 h';exact jo7 h' (.inr h1) t
  | sym e =>
   cases (show y=.int .i64 (den A e) from hy)
   obtain⟨h1,h'⟩:=jab.1 (show oif (jos k) (jwv o (.lit m) e) none=some v from h)
   rw[jfh h1]
   exact jo9 h' t
  | _=>cases h
 | sym e =>
  cases (show x=.int .i64 (den A e) from hx)
  obtain⟨e',h1,h2⟩:=j2a (show vSx b (fun e'=>jwv o e e')=some v from h)
  cases h1 _ _ _ hy
  exact jo9 h2 t
 | _=>cases h
end
end Go.Proofs.YtdbklpgagdbpiaaDoor.Ev
