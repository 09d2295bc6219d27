/- What an abstract value. -/
import Derived.Test.YtkpadfebkaangaaGreatDoorComp
import Derived.Laws.StructEq
import Derived.ChangeKeysEq
namespace Go.Proofs.YtkpadfebkaangaaGreatDoor.Ev
open Go
set_option linter.all false
variable {g:Bool} {n:Int} {l:List SV} {x:SV}
section
variable {α β:Type}
theorem jaa {x:Option α} {f:α->Option β} {r:β}:ob x f=some r↔∃ a,x=some a/\f a=some r:=by
 cases x<;>simp[ob]
theorem jq3 {α:Sort _} (b:Bool) (x y:α):Bool.rec y x b=if b then x else y:=by cases b<;>rfl
theorem jat (b:Bool) (x y:α):oif b x y=if b then x else y:=by cases b<;>rfl
theorem jae {b:Bool} {x:Option α} {r:α}:oif b x none=some r↔b=true/\x=some r:=by
 cases b<;>simp[oif]
theorem jc3 (l:List α):∀ i,je6 l i=l[i]?:=by
 induction l with
 | nil=>intro i;rfl
 | cons a l ih=>intro i;cases i with
  | zero=>rfl
  | succ j=>exact(ih j).trans se
theorem ji2 (l:List α):∀ i x,j3w l i x=l.set i x:=by
 induction l with
 | nil=>intro i x;rfl
 | cons a l ih=>intro i x;cases i with
  | zero=>rfl
  | succ j=>exact congrArg (a::·) (ih j x)
theorem jcb (n:Nat):∀ l:List α,jb9 n l=l.drop n:=by
 induction n with
 | zero=>intro l;rfl
 | succ n ih=>intro l;cases l with
  | nil=>rfl
  | cons a l=>exact ih l
theorem ja8 (n:Nat):∀ {l r:List α},jbp n l=some r↔n<=l.length/\r=l.take n:=by
 induction n with
 | zero=>exact⟨fun h=>⟨f15 _,(Option.some.inj h).symm⟩,fun h=>congrArg some h.2.symm⟩
 | succ n ih=>intro l r;cases l with
  | nil=>simp[jbp]
  | cons a l =>
   have:jbp (n+1) (a::l)=ob (jbp n l) fun x=>some (a::x):=rfl
   grind[jaa]
theorem jcv (l r:List α):jf8 l r=l++r:=by
 induction l with
 | nil=>rfl
 | cons a l ih=>exact congrArg (a::·) ih
theorem jba (l:List α):jb6 l=l.length:=by
 induction l with
 | nil=>rfl
 | cons a l ih=>exact congrArg Nat.succ ih
theorem j32 (xs:List α):∀ {l r:List α},jn0 xs l=some r↔xs.length<=l.length/\r=xs++l.drop xs.length:=by
 induction xs with
 | nil=>simp[jn0,eq_comm]
 | cons x xs ih=>intro l r;cases l with
  | nil=>simp[jn0]
  | cons a l =>
   have:jn0 (x::xs) (a::l)=ob (jn0 xs l) fun y=>some (x::y):=rfl
   grind[jaa]
theorem jfv (n:Nat):∀ {xs l r:List α},jbo n xs l=some r↔n+xs.length<=l.length/\r=l.take n++(xs++l.drop (n+xs.length)):=by
 induction n with
 | zero=>intro xs l r;exact(j32 xs).trans se
 | succ n ih=>intro xs l r;cases l with
  | nil=>simp[jbo]
  | cons a l =>
   have:jbo (n+1) xs (a::l)=ob (jbo n xs l) fun y=>some (a::y):=rfl
   grind[jaa,Nat.add_right_comm]
theorem jx6 (l:List SV):∀ n,(rep l n).length=n*l.length
 | 0=>by rw[f2a];rfl
 | n+1=>by
  have:rep l (n+1)=jf8 l (rep l n):=rfl
  simp_all[jcv,jx6,f29,Nat.add_comm]
theorem j6l (l:List SV):∀ n i,i<n*l.length->(rep l n)[i]?=l[i % l.length]?
 | 0,i,h=>oa
 | n+1,i,h=>by
  have:rep l (n+1)=l++rep l n:=jcv _ _
  rw[this,f2n]
  split
  .grind[f2j]
  .rw [j6l l n _ (by grind),←Nat.mod_eq_sub_mod oa]
end
theorem jiu (a b:Nat):(Nat.beq a b=true)=(a=b):=propext ⟨f0k,fun h=>h▸f1w a⟩
theorem jr7 (a b:Nat):(Nat.ble a b=true)=(a<=b):=Nat.ble_eq
theorem jdi (a b:Int):ieq a b=decide (a=b):=by
 rw[f10]
 cases a<;>cases b<;>simp[ieq]<;>omega
theorem jem (a b:Int):ile a b=decide (a<=b):=by
 rw[f10]
 cases a<;>cases b<;>simp[ile]<;>omega
theorem j6m (a b:Int):qps a b=a+b:=by
 cases a<;>cases b<;>rfl
theorem jhk (b:Bool):jis b = !b:=by cases b<;>rfl
theorem jn7 {k k':IntKind} (h:Nat.beq (ikn k) (ikn k')=true):k=k':=by
 cases k<;>cases k'<;>first | rfl | trivial
theorem je7 {k:IntKind} (h:jn1 k=true):k=.i64:=by
 cases k<;>first | rfl | trivial
theorem j6n {k:IntKind} (h:qp6 k=true):k=.u64:=by
 cases k<;>first | rfl | trivial
theorem qkt {a b:BO} (h:Nat.beq (boN a) (boN b)=true):a=b:=by
 cases a<;>cases b<;>first | rfl | trivial
theorem j33:∀ a b,qpt a b=true->a=b:=by
 intro a
 induction a with
 | arg i=>intro b h;cases b<;>simp[qpt] at h;rw[h]
 | lit n=>intro b h;cases b<;>simp[qpt,jdi] at h;rw[h]
 | op o x y ihx ihy =>
  intro b h
  cases b with
  | op o' x' y' =>
   have h':oif (Nat.beq (boN o) (boN o')) (oif (qpt x x') (qpt y y') false) false=true:=h
   grind[jat,qkt]
  | _=>trivial
 | bnd i m =>
  intro b h
  cases b with
  | bnd j n =>
   have h':oif (Nat.beq i j) (Nat.beq m n) false=true:=h
   grind[jat,jiu]
  | _=>trivial
theorem je0 {k:IntKind} (h:inR k n=true):(k=.i64/\-9223372036854775808<=n/\n<=9223372036854775807)∨(k=.u8/\0<=n/\n<=255)∨(k=.u64/\0<=n/\n<=18446744073709551615):=by
 cases k
 case i64 =>
  refine .inl ⟨rfl,?_⟩
  cases n with
  | ofNat m=>have h':Nat.ble m 9223372036854775807=true:=h;grind[jr7]
  | negSucc m=>have h':Nat.ble m 9223372036854775807=true:=h;grind[jr7]
 case u8 =>
  refine .inr (.inl ⟨rfl,?_⟩)
  cases n with
  | ofNat m=>have h':Nat.ble m 255=true:=h;grind[jr7]
  | negSucc m=>trivial
 case u64 =>
  refine .inr (.inr ⟨rfl,?_⟩)
  cases n with
  | ofNat m=>have h':Nat.ble m 18446744073709551615=true:=h;rw[jr7] at h';simp;omega
  | negSucc m=>exact Bool.noConfusion h
 all_goals exact absurd h (by cases n<;>exact fun h=>Bool.noConfusion h)
theorem jjr {k:IntKind} (h:inR k n=true):k.wrap n=n:=by
 rcases je0 h with⟨rfl,h1,h2⟩ | ⟨rfl,h1,h2⟩ | ⟨rfl,h1,h2⟩<;>simp[IntKind.wrap,IntKind.bits,IntKind.signed]<;>omega
inductive All2 {α β:Type} (R:α->β->Prop):List α->List β->Prop where
 | nil:All2 R [] []
 | cons {a:α} {b:β} {l:List α} {r:List β}:R a b->All2 R l r->All2 R (a::l) (b::r)
namespace All2
variable {α β:Type} {R S:α->β->Prop}
theorem len {l:List α} {r:List β} (h:All2 R l r):l.length=r.length:=by
 induction h<;>simp_all
theorem get {l:List α} {r:List β} (h:All2 R l r):∀ (i:Nat) (a:α),l[i]?=some a->∃ b,r[i]?=some b/\R a b:=by
 induction h<;>grind
theorem of_get:∀ {l:List α} {r:List β},l.length=r.length->(∀ (i:Nat) a b,l[i]?=some a->r[i]?=some b->R a b)->All2 R l r
 | [],[],_,_=>.nil
 | a::l,b::r,h,k=>.cons (k 0 a b rfl rfl) (of_get (by grind) fun i x y hx hy=>k (i+1) x y (by grind) (by grind))
theorem append {l:List α} {r:List β} {l':List α} {r':List β} (h:All2 R l r) (k:All2 R l' r'):All2 R (l++l') (r++r'):=by
 induction h with
 | nil=>grind
 | cons a _ ih=>exact .cons a ih
theorem take {l:List α} {r:List β} (h:All2 R l r):∀ n,All2 R (l.take n) (r.take n):=by
 induction h with
 | nil=>simp;exact .nil
 | cons a _ ih=>intro n;cases n with
  | zero=>exact .nil
  | succ n=>exact .cons a (ih n)
theorem drop {l:List α} {r:List β} (h:All2 R l r):∀ n,All2 R (l.drop n) (r.drop n):=by
 induction h with
 | nil=>simp;exact .nil
 | cons a t ih=>intro n;cases n with
  | zero=>exact .cons a t
  | succ n=>grind
theorem mono (h:∀ a b,R a b->S a b) {l:List α} {r:List β} (k:All2 R l r):All2 S l r:=by
 induction k with
 | nil=>exact .nil
 | cons a _ ih=>exact .cons (h _ _ a) ih
end All2
structure Lc where
 b:Nat
 o:Nat
 lim:Nat
structure Phi where
 m:Nat->Option Lc
 k:Nat->Option (Array Value)
 g:GK k
instance:CoeFun Phi (fun _=>Nat->Option Lc):=⟨Phi.m⟩
def den (A:Nat->Int):Sx->Int
 | .arg i=>A i
 | .lit n=>n
 | .op o a b=>match o with
  | .add=>IntKind.i64.wrap (den A a+den A b)
  | .sub=>IntKind.i64.wrap (den A a - den A b)
  | .mul=>IntKind.i64.wrap (den A a*den A b)
  | .quo=>IntKind.i64.wrap ((den A a).tdiv (den A b))
  | .rem=>(den A a).tmod (den A b)
  | _=>0
 | .bnd i m=>if 0<=A i/\A i<=(m:Int) then A i else 0
inductive cD (A:Nat->Int) (k:Nat->Option (Array Value)):SV->Value->Prop where
 | bool (b:Bool):cD A k (.bool b) (.bool b)
 | int (q:IntKind) (n:Int):cD A k (.int q n) (.int q n)
 | sym (e:Sx):cD A k (.sym e) (.int .i64 (den A e))
 | nilPtr:cD A k .nilPtr (.pointer none)
 | nilSlice:cD A k .nilSlice (.slice none 0 0)
 | nilFunc:cD A k .nilFunc .nilFunc
 | nilMap:cD A k .nilMap (.map none)
 | ifc0:cD A k (.ifc false) .nilIface
 | ifc1 (t:TypeId) (p:Value):cD A k (.ifc true) (.iface t p)
 | str (l:List UInt8):cD A k (.str l) (.string ⟨l.toArray⟩)
 | lst0 (ad:Addr) (cap:Nat):cD A k (.lst []) (.slice (some ad) 0 cap)
 | lst (rows:List (List SV)) (b o cap sz:Nat) (cs:Array Value) (g:Nat->Nat->Value):k b=some cs->rows.length<=cap->(∀ (i:Nat) (row:List SV),rows[i]?=some row->row.length=sz) ->
  (∀ (i j:Nat) (row:List SV) (x:SV),rows[i]?=some row->row[j]?=some x->cs[o+i*sz+j]?=some (g i j))->(∀ (i j:Nat) (row:List SV) (x:SV),rows[i]?=some row->row[j]?=some x->cD A k x (g i j))->cD A k (.lst rows) (.slice (some ⟨b,o,none⟩) rows.length cap)
def jqj (φ:Phi) (n i:Nat) (v:Value):Prop:=∃ L,φ n=some L/\v=.pointer (some ⟨L.b,L.o+i,none⟩)
def qku (b:Bool) (v:Value):Prop:=(b=true/\∃ t p,v=.iface t p)∨(b=false/\v=.nilIface)
def cS (A:Nat->Int) (φ:Phi):SV->Value->Prop
 | .bool b,v=>v=.bool b
 | .int k n,v=>v=.int k n
 | .sym e,v=>v=.int .i64 (den A e)
 | .ptr n i,v=>jqj φ n i v
 | .nilPtr,v=>v=.pointer none
 | .slice n i len mc ex sz,v=>∃ L ad cap,φ n=some L/\v=.slice (some ad) len cap/\mc<=cap/\len<=mc/\(ex=true->cap=mc)/\((ad=⟨L.b,L.o+i,none⟩/\L.o+i+cap*sz<=L.lim)∨cap=0)
 | .nilSlice,v=>v=.slice none 0 0
 | .func f caps,v=>∃ vs:List Value,v=.func (.func f) #[] vs.toArray/\All2 (fun p x=>jqj φ p.1 p.2 x) caps vs
 | .nilFunc,v=>v=.nilFunc
 | .nilMap,v=>v=.map none
 | .map n,v=>∃ L,φ n=some L/\v=.map (some L.b)
 | .str l,v=>v=.string ⟨l.toArray⟩
 | .lst rows,v=>cD A φ.k (.lst rows) v
 | .cp cells,v=>∃ b o cs,φ.k b=some cs/\v=.pointer (some ⟨b,o,none⟩)/\∀ (j:Nat) (x:SV),cells[j]?=some x->∃ u,cs[o+j]?=some u/\cD A φ.k x u
 | .emp,v=>∃ ad,v=.slice (some ad) 0 0
 | .ifc b,v=>qku b v
def cV1 (A:Nat->Int) (φ:Phi) (agg:Bool) (cs:List SV) (v:Value):Prop :=
 if agg then ∃ vs:List Value,v=.agg vs.toArray/\All2 (cS A φ) cs vs else ∃ x,cs=[x]/\cS A φ x v
def cV (A:Nat->Int) (φ:Phi):AV->Value->Prop
 | .s x,v=>cS A φ x v
 | .agg l,v=>∃ vs:List Value,v=.agg vs.toArray/\All2 (cS A φ) l vs
 | .tup l,v=>∃ vs:List Value,v=.tuple vs.toArray/\All2 (fun p x=>cV1 A φ p.1 p.2 x) l vs
 | .undef,v=>v=Go.undef
 | .any,_=>True
structure Phi.le (φ ψ:Phi):Prop where
 nm:∀ n L,φ n=some L->ψ n=some L
 con:∀ b cs,φ.k b=some cs->ψ.k b=some cs
theorem Phi.le_refl (φ:Phi):φ.le φ:=⟨fun _ _ h=>h,fun _ _ h=>h⟩
theorem cD.mono {A:Nat->Int} {k k':Nat->Option (Array Value)} (h:∀ b cs,k b=some cs->k' b=some cs) {v:Value} (d:cD A k x v):cD A k' x v:=by
 induction d with
 | bool b=>exact .bool b
 | int q n=>exact .int q n
 | sym e=>exact .sym e
 | nilPtr=>exact .nilPtr
 | nilSlice=>exact .nilSlice
 | nilFunc=>exact .nilFunc
 | nilMap=>exact .nilMap
 | str l=>exact .str l
 | ifc0=>exact .ifc0
 | ifc1 t p=>exact .ifc1 t p
 | lst0 ad cap=>exact .lst0 ad cap
 | lst rows b o cap sz cs g h1 h2 h3 h4 h5 ih=>exact .lst rows b o cap sz cs g (h _ _ h1) h2 h3 h4 ih
section
variable {A:Nat->Int} {φ ψ:Phi}
theorem jqj.mono (h:φ.le ψ) {n i:Nat} {v:Value} (k:jqj φ n i v):jqj ψ n i v :=
 let ⟨L,e,r⟩:=k;⟨L,h.nm _ _ e,r⟩
theorem cS.mono (h:φ.le ψ) {v:Value} (k:cS A φ x v):cS A ψ x v:=by
 cases x with
 | ptr n i=>exact jqj.mono h k
 | slice n i len mc ex sz =>
  obtain⟨L,ad,cap,e,r⟩:=k
  exact⟨L,ad,cap,h.nm _ _ e,r⟩
 | func f caps =>
  obtain⟨vs,e,r⟩:=k
  exact⟨vs,e,r.mono fun _ _=>jqj.mono h⟩
 | map n=>obtain⟨L,e,r⟩:=k;exact⟨L,h.nm _ _ e,r⟩
 | lst rows=>exact cD.mono h.con k
 | cp cells =>
  obtain⟨b,o,cs,e,r,q⟩:=k
  exact⟨b,o,cs,h.con _ _ e,r,fun j x hx=>let ⟨u,a,d⟩:=q j x hx;⟨u,a,d.mono h.con⟩⟩
 | _=>exact k
theorem cD.toS {v:Value} (d:cD A φ.k x v):cS A φ x v:=by
 cases d with
 | lst0 ad cap=>exact .lst0 ad cap
 | lst rows b o cap sz cs g h1 h2 h3 h4 h5=>exact .lst rows b o cap sz cs g h1 h2 h3 h4 h5
 | ifc0=>exact .inr ⟨rfl,rfl⟩
 | ifc1 t p=>exact .inl ⟨rfl,t,p,rfl⟩
 | _=>rfl
theorem cS.toD {v:Value} (k:cS A φ x v) (h:grd x=true):cD A φ.k x v:=by
 cases x with
 | bool b=>cases k;exact .bool b
 | int q n=>cases k;exact .int q n
 | sym e=>cases k;exact .sym e
 | nilPtr=>cases k;exact .nilPtr
 | nilSlice=>cases k;exact .nilSlice
 | nilFunc=>cases k;exact .nilFunc
 | nilMap=>cases k;exact .nilMap
 | str l=>cases k;exact .str l
 | lst rows=>exact k
 | _=>cases h
theorem j0a:∀ {l:List SV},qc4 l=true->∀ x∈l,grd x=true
 | [],_,x,hx=>by grind
 | a::l,h,x,hx=>by
  have h':oif (grd a) (qc4 l) false=true:=h
  rw[jat] at h'
  split at h'
  .rcases f0f.1 hx with rfl | h2
   .omega
   .exact j0a h' x h2
  grind
theorem cV1.mono (h:φ.le ψ) {v:Value} (k:cV1 A φ g l v):cV1 A ψ g l v:=by
 unfold cV1 at *
 split
 .rename_i hp;rw[if_pos hp] at k;obtain⟨ws,e,r⟩:=k;exact⟨ws,e,r.mono fun _ _=>cS.mono h⟩
 grind[cS.mono]
theorem cV.mono (h:φ.le ψ) {x:AV} {v:Value} (k:cV A φ x v):cV A ψ x v:=by
 cases x with
 | s x=>exact cS.mono h k
 | agg l=>obtain⟨vs,e,r⟩:=k;exact⟨vs,e,r.mono fun _ _=>cS.mono h⟩
 | tup l =>
  obtain⟨vs,e,r⟩:=k
  exact⟨vs,e,r.mono fun p x hx=>cV1.mono h hx⟩
 | undef=>exact k
 | any=>exact k
theorem cS.one {v:Value} (k:cS A φ x v):v.oneCell'=true/\v.cells=#[v]:=by
 cases x with
 | ptr n i=>obtain⟨L,_,rfl⟩:=k;trivial
 | slice n i len mc ex sz=>obtain⟨L,ad,cap,_,rfl,_⟩:=k;trivial
 | func f caps=>obtain⟨vs,rfl,_⟩:=k;trivial
 | map n=>obtain⟨L,_,rfl⟩:=k;trivial
 | lst rows =>
  have k' :=k
  cases k'<;>exact⟨rfl,rfl⟩
 | cp cells=>obtain⟨b,o,cs,_,rfl,_⟩:=k;trivial
 | emp=>obtain⟨ad,rfl⟩:=k;trivial
 | ifc b=>rcases k with⟨_,t,p,rfl⟩ | ⟨_,rfl⟩<;>exact⟨rfl,rfl⟩
 | _=>cases k;trivial
theorem cV1.cells {v:Value} (k:cV1 A φ g l v):All2 (cS A φ) l v.cells.toList:=by
 unfold cV1 at k
 split at k
 .obtain ⟨vs,rfl,r⟩:=k;trivial
 .obtain ⟨y,rfl,r⟩:=k;rw[r.one.2];exact .cons r .nil
theorem cV.cells {x:AV} {v:Value} {β:Type} {f:List SV->Option β} {r:β} (k:cV A φ x v) (h:cel x f=some r) :
 ∃ cs,f cs=some r/\All2 (cS A φ) cs v.cells.toList:=by
 cases x with
 | s x =>
  have k' :=k
  exact⟨[x],h,by rw[k'.one.2];exact .cons k' .nil⟩
 | agg l=>obtain⟨vs,rfl,r⟩:=k;exact⟨l,h,by trivial⟩
 | _=>cases h
theorem jjs {cs:List SV} {x:AV} (h:jgs g cs=some x):(g=true/\x=.agg cs)∨(g=false/\∃ s,cs=[s]/\x=.s s):=by
 cases g with
 | true=>exact .inl ⟨rfl,by simp[jgs] at h;grind⟩
 | false =>
  match cs,h with
  | [a],h=>exact .inr ⟨rfl,a,rfl,by simp[jgs] at h;grind⟩
  | [],h=>trivial
  | a::b::r,h=>trivial
end
section
variable {α:Type}
theorem jn8 (k:Nat):(Tr.leaf:Tr α).get k=none:=rfl
theorem jbf (l r:Tr α) (v:Option α) (k:Nat):(Tr.node l v r).get k=if k=1 then v else if k % 2=1 then r.get (k / 2) else l.get (k / 2):=by
 have h:(Tr.node l v r).get k=Bool.rec  (Bool.rec  (l.get (Nat.div k 2)) (r.get (Nat.div k 2)) (Nat.beq (Nat.land k 1) 1)) v (Nat.beq k 1):=rfl
 rw[h,jq3,jq3]
 have e:Nat.land k 1=k % 2:=f11 k
 rw[e]
 simp only[jiu]
 rfl
theorem jn9 (n k:Nat) (x:Option α):(Tr.leaf:Tr α).put (n+1) k x=if k=1 then .node .leaf x .leaf else if k % 2=1 then .node .leaf none ((Tr.leaf:Tr α).put n (k / 2) x) else .node ((Tr.leaf:Tr α).put n (k / 2) x) none .leaf:=by
 have h:Tr.leaf.put (n+1) k x=Bool.rec  (Bool.rec  (.node (Tr.leaf.put n (Nat.div k 2) x) none .leaf) (.node .leaf none (Tr.leaf.put n (Nat.div k 2) x)) (Nat.beq (Nat.land k 1) 1)) (.node .leaf x .leaf) (Nat.beq k 1):=rfl
 rw[h,jq3,jq3]
 have e:Nat.land k 1=k % 2:=f11 k
 rw[e]
 simp only[jiu]
 rfl
theorem joa (n k:Nat) (l r:Tr α) (v x:Option α):(Tr.node l v r).put (n+1) k x=if k=1 then .node l x r else if k % 2=1 then .node l v (r.put n (k / 2) x) else .node (l.put n (k / 2) x) v r:=by
 have h:(Tr.node l v r).put (n+1) k x=Bool.rec  (Bool.rec  (.node (l.put n (Nat.div k 2) x) v r) (.node l v (r.put n (Nat.div k 2) x)) (Nat.beq (Nat.land k 1) 1)) (.node l x r) (Nat.beq k 1):=rfl
 rw[h,jq3,jq3]
 have e:Nat.land k 1=k % 2:=f11 k
 rw[e]
 simp only[jiu]
 rfl
theorem job (t:Tr α):t.get 0=none:=by
 induction t with
 | leaf=>rfl
 | node l v r ihl ihr=>trivial
theorem jbr (x:Option α):∀ (n:Nat) (t:Tr α) (k:Nat),1<=k->k<2 ^ n->(t.put n k x).get k=x
 | 0,t,k,h1,h2=>oa
 | n+1,t,k,h1,h2=>by
  have hk:k / 2<2 ^ n:=oa
  cases t with
  | leaf =>
   rw[jn9]
   split
   .simp_all[jbf,if_pos]
   .rename_i h
    have:=jbr x n .leaf (k / 2) oa hk
    split
    .rename_i h3;rw[jbf,if_neg h,if_pos h3,this]
    .rename_i h3;rw[jbf,if_neg h,if_neg h3,this]
  | node l v r =>
   rw[joa]
   split
   .rename_i h;rw[jbf,if_pos h]
   .rename_i h
    split
    .rename_i h3;rw[jbf,if_neg h,if_pos h3,jbr x n r (k / 2) oa hk]
    .rename_i h3;rw[jbf,if_neg h,if_neg h3,jbr x n l (k / 2) oa hk]
theorem jb1 (x:Option α):∀ (n:Nat) (t:Tr α) (k j:Nat),1<=k->k<2 ^ n->j≠k->(t.put n k x).get j=t.get j
 | 0,t,k,j,h1,h2,_=>by rfl
 | n+1,t,k,j,h1,h2,hj=>by
  rcases f2x j with h0 | h0
  .grind[job]
  have hk:k / 2<2 ^ n:=oa
  cases t with
  | leaf =>
   rw[jn9,jn8]
   split
   .rename_i h;rw[jbf,if_neg (show ¬ j=1 by omega)];split<;>rfl
   .rename_i h
    split
    .rename_i h3
     rw[jbf]
     split
     .rfl
     split
     .rw [jb1 x n .leaf (k / 2) (j / 2) oa hk oa];rfl
     .rfl
    .rename_i h3
     rw[jbf]
     split
     .rfl
     split
     .rfl
     .rw [jb1 x n .leaf (k / 2) (j / 2) oa hk oa];rfl
  | node l v r =>
   rw[joa]
   split
   .rename_i h;rw[jbf,jbf,if_neg (show ¬ j=1 by omega),if_neg (show ¬ j=1 by omega)]
   .rename_i h
    split
    .rename_i h3
     rw[jbf,jbf]
     split
     .rfl
     split
     .rw [jb1 x n r (k / 2) (j / 2) oa hk oa]
     .rfl
    .rename_i h3
     rw[jbf,jbf]
     split
     .rfl
     split
     .rfl
     .rw [jb1 x n l (k / 2) (j / 2) oa hk oa]
end
end Go.Proofs.YtkpadfebkaangaaGreatDoor.Ev
namespace Go.Proofs.YtkpadfebkaangaaGreatDoor.Ev
open Go
set_option linter.all false
variable {v:AV} {e:Bool} {rows:List (List SV)} {l r cs:List SV} {b m o sz size:Nat} {a:SV}
theorem Hp.get_eq (h:Hp) (n:Nat):h.get n=if jaq h.hid n=true then none else h.tr.get n:=by
 cases h with | mk a t lo hid=>exact jat _ _ _
theorem Hp.get_some {h:Hp} {n:Nat} {x:AB} (k:h.get n=some x):jaq h.hid n=false/\h.tr.get n=some x:=by
 grind[Hp.get_eq]
theorem Hp.get_isSome {h:Hp} {n:Nat} (k:(h.get n).isSome=true):jaq h.hid n=false/\(h.tr.get n).isSome=true:=by
 cases e:h.get n with
 | none=>grind
 | some x=>grind[Hp.get_some]
theorem Hp.isSome_get {h:Hp} {n:Nat} (k:jaq h.hid n=false) (k':(h.tr.get n).isSome=true):(h.get n).isSome=true:=by
 simp_all[Hp.get_eq]
@[simp] theorem Hp.next_put (h:Hp) (b:Nat) (x:Option AB):(h.put b x).next=h.next:=by rfl
@[simp] theorem Hp.lo_put (h:Hp) (b:Nat) (x:Option AB):(h.put b x).lo=h.lo:=by rfl
@[simp] theorem Hp.hid_put (h:Hp) (b:Nat) (x:Option AB):(h.put b x).hid=h.hid:=by rfl
theorem Hp.tr_put (h:Hp) (b:Nat) (x:Option AB):(h.put b x).tr=h.tr.put (Nat.succ b) b x:=by rfl
noncomputable def Hp.push (h:Hp) (x:AB):Hp:=.mk (h.next+1) (h.tr.put (Nat.succ h.next) h.next (some x)) h.lo h.hid
@[simp] theorem Hp.next_push (h:Hp) (x:AB):(h.push x).next=h.next+1:=rfl
@[simp] theorem Hp.lo_push (h:Hp) (x:AB):(h.push x).lo=h.lo:=rfl
@[simp] theorem Hp.hid_push (h:Hp) (x:AB):(h.push x).hid=h.hid:=rfl
theorem jr8 {β:Type} {h:Hp} {ty:TypeId} {f:Nat->Hp->Option β} {r:β} (k:nw h cs ty f=some r) :
 0<=h.next/\jaq h.hid h.next=false/\f h.next (h.push (.arr cs ty))=some r:=by
 cases h with
 | mk n t lo hid =>
  have k':oif (Nat.ble 0 n) (oif (jaq hid n) none (f n (.mk (Nat.succ n) (t.put (Nat.succ n) n (some (.arr cs ty))) lo hid))) none=some r:=k
  obtain⟨h1,h2⟩:=jae.1 k'
  rw[jat] at h2
  split at h2
  .grind
  .rename_i h3;exact⟨f0l h1,Bool.eq_false_iff.2 h3,h2⟩
theorem jle {h h':Hp} {off:Nat} {xs:List SV} (k:wr h b off xs=some h') :
 h.lo<=b/\∃ cs ty,h.get b=some (.arr cs ty)/\off+xs.length<=cs.length/\h'=h.put b (some (.arr (cs.take off++(xs++cs.drop (off+xs.length))) ty)):=by
 obtain⟨h1,h2⟩:=jae.1 k
 obtain⟨x,hx,h3⟩:=jaa.1 h2
 cases x with
 | arr cs ty =>
  grind[jaa,jfv,jr7,Option.some.inj]
 | map va es=>grind
theorem joc {h:Hp} {off n:Nat} {xs:List SV} (k:rd h b off n=some xs) :
 ∃ cs ty,h.get b=some (.arr cs ty)/\xs=(cs.drop off).take n/\xs.length=n:=by
 obtain⟨x,hx,h3⟩:=jaa.1 k
 cases x with
 | arr cs ty =>
  grind[jcb,ja8]
 | map va es=>grind
structure WF (h:Hp):Prop where
 pos:1<=h.next
 top:0<=h.next
 lo:h.lo<=h.next
 fresh:∀ n,h.next<=n->h.tr.get n=none
theorem WF.lt {h:Hp} (k:WF h) {n:Nat} (e:(h.tr.get n).isSome=true):n<h.next:=by
 rcases f0n n h.next with h1 | h1
 .omega
 .rw [k.fresh n h1] at e;grind
theorem WF.one {h:Hp} {n:Nat} (e:(h.tr.get n).isSome=true):1<=n:=by
 grind[f2x,job]
theorem jmb (b:Nat):b<2 ^ (Nat.succ b):=Nat.lt_trans (Nat.lt_succ_self b) Nat.lt_two_pow_self
theorem WF.put_same {h:Hp} (k:WF h) (e:(h.tr.get b).isSome=true) (x:Option AB):(h.put b x).tr.get b=x:=by
 grind[Hp.tr_put,jbr,WF.one,jmb]
theorem WF.put_ne {h:Hp} (k:WF h) (e:(h.tr.get b).isSome=true) (x:Option AB) {n:Nat} (hn:n≠b):(h.put b x).tr.get n=h.tr.get n:=by
 grind[Hp.tr_put,jb1,WF.one,jmb]
theorem WF.push_same {h:Hp} (k:WF h) (k':0<=h.next) (x:AB):(h.push x).tr.get h.next=some x :=
 jbr _ _ _ _ k.pos (jmb _)
theorem WF.push_ne {h:Hp} (k:WF h) (k':0<=h.next) (x:AB) {n:Nat} (hn:n≠h.next):(h.push x).tr.get n=h.tr.get n :=
 jb1 _ _ _ _ n k.pos (jmb _) hn
theorem WF.put {h:Hp} (k:WF h) (e:(h.tr.get b).isSome=true) (x:Option AB):WF (h.put b x) :=
 ⟨by simpa using k.pos,f15 _,by simpa using k.lo,fun n hn=>by
  rw[Hp.next_put] at hn
  have:=k.lt e
  rw[k.put_ne e x oa];exact k.fresh n hn⟩
theorem WF.push {h:Hp} (k:WF h) (k':0<=h.next) (x:AB):WF (h.push x) :=
 ⟨se,f15 _,by have:=k.lo;simp;omega,fun n hn=>by
  rw[Hp.next_push] at hn
  rw[k.push_ne k' x oa];exact k.fresh n oa⟩
structure Abs (W:Nat->Prop) (h h':Hp):Prop where
 wf:WF h'
 nx:h.next<=h'.next
 lo:h'.lo=h.lo
 hid:h'.hid=h.hid
 keep:∀ n,n<h.next->(¬ W n∨jaq h.hid n=true)->h'.tr.get n=h.tr.get n
 live:∀ n,n<h.next->(h'.tr.get n).isSome=true->(h.tr.get n).isSome=true
 seen:∀ n,h.next<=n->n<h'.next->jaq h.hid n=false
theorem Abs.refl (W:Nat->Prop) {h:Hp} (k:WF h):Abs W h h:=⟨k,f0h _,rfl,rfl,fun _ _ _=>rfl,fun _ _ h=>h,fun n h1 h2=>oa⟩
theorem Abs.mono {W V:Nat->Prop} (hw:∀ n,W n->V n) {h h':Hp} (k:Abs W h h'):Abs V h h' :=
 ⟨k.wf,k.nx,k.lo,k.hid,fun n hn hv=>k.keep n hn (hv.imp (fun h h'=>h (hw n h')) id),k.live,k.seen⟩
theorem Abs.trans {W:Nat->Prop} {h h' h'':Hp} (a:Abs W h h') (b:Abs W h' h''):Abs W h h'' :=
 ⟨b.wf,f02 a.nx b.nx,b.lo.trans a.lo,b.hid.trans a.hid,
  fun n hn hv=>(b.keep n (f0o hn a.nx) (by rwa [a.hid])).trans (a.keep n hn hv),
  fun n hn hv=>a.live n hn (b.live n (f0o hn a.nx) hv),fun n h1 h2=>by
   rcases f0n n h'.next with h3 | h3
   .exact a.seen n h1 h3
   .rw [←a.hid];exact b.seen n h3 h2⟩
theorem Abs.push (W:Nat->Prop) {h:Hp} (k:WF h) (k':0<=h.next) (k2:jaq h.hid h.next=false) (x:AB):Abs W h (h.push x) :=
 ⟨k.push k' x,se,rfl,rfl,fun n hn _=>k.push_ne k' x oa,fun n hn hv=>by rwa [k.push_ne k' x oa] at hv,fun n h1 h2=>by
  grind[Hp.next_push]⟩
theorem Abs.put {h:Hp} (k:WF h) (e:(h.get b).isSome=true) (x:Option AB):Abs (fun n=>n=b) h (h.put b x):=by
 obtain⟨e1,e2⟩:=Hp.get_isSome e
 refine⟨k.put e2 x,se,se,se,fun n hn hv=>k.put_ne e2 x ?_,fun n hn hv=>?_,fun n h1 h2=>by grind[Hp.next_put]⟩
 .grind
 .by_cases hb:n=b
  .grind
  .rwa [k.put_ne e2 x hb] at hv
theorem Abs.get_isSome {W:Nat->Prop} {h h':Hp} (a:Abs W h h') {n:Nat} (hn:n<h.next) (k:(h'.get n).isSome=true):(h.get n).isSome=true:=by
 obtain⟨k1,k2⟩:=Hp.get_isSome k
 rw[a.hid] at k1
 exact Hp.isSome_get k1 (a.live n hn k2)
section
variable (A:Nat->Int)
def NmR (φ:Phi) (n:Nat) (x:AB) (w:World):Prop :=
 match x with
 | .arr cs ty=>∃ L c,φ n=some L/\w.heap[L.b]?=some (.cells c ty (0,0))/\c.size=L.lim/\(L.o+cs.length<=L.lim/\(ty=bT->L.o=0/\L.lim=cs.length))/\∀ i sv,cs[i]?=some sv->∃ v,c[L.o+i]?=some v/\cS A φ sv v
 | .map va es=>∃ L es' clock,φ n=some L/\w.heap[L.b]?=some (.map es' clock)/\All2 (fun p e=>cV1 A φ (kag p.1) p.1 e.key/\cV1 A φ va p.2 e.val) es es'.toList
structure Rel (φ:Phi) (h:Hp) (w:World):Prop where
 wf:WF h
 dom:∀ n,h.next<=n->φ n=none
 blk:∀ n x,h.get n=some x->NmR A φ n x w
 inj:∀ n m L M,(h.get n).isSome=true->(h.get m).isSome=true->φ n=some L->φ m=some M->L.b=M.b->n=m
 con:∀ b cs,φ.k b=some cs->∃ ty:TypeId×Nat×Nat,w.heap[b]?=some (.cells cs ty.1 ty.2)
 sep:∀ n L,(h.get n).isSome=true->φ n=some L->φ.k L.b=none
structure Step (W:Nat->Prop) (φ φ':Phi) (h h':Hp) (w w':World):Prop where
 abs:Abs W h h'
 ext:∀ n,n<h.next->φ' n=φ n
 kle:∀ b cs,φ.k b=some cs->φ'.k b=some cs
 knew:∀ b cs,φ'.k b=some cs->φ.k b=some cs∨w.heap.size<=b
 os:w'.os=w.os
 tape:w'.tape=w.tape
 output:w'.output=w.output
 size:w.heap.size<=w'.heap.size
 old:∀ b,b<w.heap.size->(∀ n L,W n->(h.get n).isSome=true->φ n=some L->L.b≠b)->w'.heap[b]?=w.heap[b]?
 new:∀ n L,h.next<=n->(h'.get n).isSome=true->φ' n=some L->w.heap.size<=L.b∨∃ m M,W m/\(h.get m).isSome=true/\φ m=some M/\M.b=L.b
end
section
variable {A:Nat->Int} {φ ψ χ:Phi} {h h' h'':Hp} {w w' w'':World} {W V:Nat->Prop}
theorem NmR.mono (hle:φ.le ψ) {n:Nat} {x:AB} (k:NmR A φ n x w):NmR A ψ n x w:=by
 cases x with
 | arr cs ty =>
  obtain⟨L,c,h1,h3,h4,h5,h6⟩:=k
  exact⟨L,c,hle.nm _ _ h1,h3,h4,h5,fun i sv hi=>let ⟨v,a,b⟩:=h6 i sv hi;⟨v,a,b.mono hle⟩⟩
 | map va es =>
  obtain⟨L,es',clock,h1,h3,h4⟩:=k
  exact⟨L,es',clock,hle.nm _ _ h1,h3,h4.mono fun p e hp=>⟨hp.1.mono hle,hp.2.mono hle⟩⟩
theorem NmR.world {n:Nat} {x:AB} (k:NmR A φ n x w) (hw:∀ L,φ n=some L->w'.heap[L.b]?=w.heap[L.b]?):NmR A φ n x w':=by
 cases x with
 | arr cs ty =>
  obtain⟨L,c,h1,h3,h4,h5,h6⟩:=k
  exact⟨L,c,h1,by grind,h4,h5,h6⟩
 | map va es =>
  obtain⟨L,es',clock,h1,h3,h4⟩:=k
  exact⟨L,es',clock,h1,by grind,h4⟩
theorem NmR.some_loc {n:Nat} {x:AB} (k:NmR A φ n x w):∃ L,φ n=some L/\L.b<w.heap.size:=by
 cases x with
 | arr cs ty =>
  obtain⟨L,c,h1,h3,h4,h5,h6⟩:=k
  grind
 | map va es =>
  obtain⟨L,es',clock,h1,h3,h4⟩:=k
  grind
theorem Rel.loc (k:Rel A φ h w) {n:Nat} (e:(h.get n).isSome=true):∃ L,φ n=some L/\L.b<w.heap.size:=by
 cases e':h.get n with
 | none=>grind
 | some x=>exact(k.blk n x e').some_loc
theorem Rel.heap (k:Rel A φ h w) (hw:w'.heap=w.heap):Rel A φ h w' :=
 ⟨k.wf,k.dom,fun n x hx=>(k.blk n x hx).world fun L _=>by grind,k.inj,fun b cs e=>by rw[hw];exact k.con b cs e,k.sep⟩
theorem Step.le (s:Step W φ ψ h h' w w') (k:Rel A φ h w):φ.le ψ:=by
 refine⟨fun n L e=>?_,s.kle⟩
 rcases f0n n h.next with h1 | h1
 .rw [s.ext n h1];omega
 .rw [k.dom n h1] at e;grind
theorem Rel.conLt (k:Rel A φ h w) {cs:Array Value} (e:φ.k b=some cs):b<w.heap.size:=by
 obtain⟨ty,h1⟩:=k.con b cs e
 grind
theorem Step.mono (hw:∀ n,W n->V n) (s:Step W φ ψ h h' w w'):Step V φ ψ h h' w w' :=
 ⟨s.abs.mono hw,s.ext,s.kle,s.knew,s.os,s.tape,s.output,s.size,fun b hb hv=>s.old b hb fun n L hn=>hv n L (hw n hn),
  fun n L a b c=>(s.new n L a b c).imp id fun⟨m,M,e,r⟩=>⟨m,M,hw m e,r⟩⟩
theorem Step.refl (W:Nat->Prop) (k:Rel A φ h w) (hw:w'.heap=w.heap) (os:w'.os=w.os) (tape:w'.tape=w.tape) (output:w'.output=w.output):Step W φ φ h h w w' :=
 ⟨Abs.refl W k.wf,fun _ _=>rfl,fun _ _ e=>e,fun _ _ e=>.inl e,os,tape,output,by grind,fun b _ _=>by grind,
  fun n L a b c=>by rw[k.dom n a] at c;grind⟩
theorem Step.trans (s:Step W φ ψ h h' w w') (t:Step W ψ χ h' h'' w' w''):Step W φ χ h h'' w w'':=by
 have nx:=s.abs.nx
 refine⟨s.abs.trans t.abs,fun n hn=>(t.ext n oa).trans (s.ext n hn),fun b cs e=>t.kle b cs (s.kle b cs e),fun b cs e=>(t.knew b cs e).elim (s.knew b cs) (fun h=>.inr (f02 s.size h)),t.os.trans s.os,t.tape.trans s.tape,t.output.trans s.output,f02 s.size t.size,?_,?_⟩
 .intro b hb hv
  have h1:=s.old b hb hv
  rw[←h1]
  refine t.old b (f0o hb s.size) ?_
  intro n L hn hl hL
  rcases f0n n h.next with h2 | h2
  .exact hv n L hn (s.abs.get_isSome h2 hl) (by rw[←s.ext n h2];omega)
  .rcases s.new n L h2 hl hL with h3 | ⟨m,M,h3,h4,h5,h6⟩
   .omega
   grind
 .intro n L hn hl hL
  rcases f0n n h'.next with h2 | h2
  .exact s.new n L hn (t.abs.get_isSome h2 hl) (by rw[←t.ext n h2];exact hL)
  .rcases t.new n L h2 hl hL with h3 | ⟨m,M,h3,h4,h5,h6⟩
   .exact .inl (f02 s.size h3)
   .rcases f0n m h.next with h7 | h7
    .exact .inr ⟨m,M,h3,s.abs.get_isSome h7 h4,by rw[←s.ext m h7];exact h5,h6⟩
    .rcases s.new m M h7 h4 h5 with h8 | ⟨m',M',h8,h9,h10,h11⟩
     .exact .inl (by rw[←h6];exact h8)
     .exact .inr ⟨m',M',h8,h9,h10,h11.trans h6⟩
structure Grown (w w':World) (c:Array Value) (ty:TypeId):Prop where
 os:w'.os=w.os
 tape:w'.tape=w.tape
 output:w'.output=w.output
 size:w'.heap.size=w.heap.size+1
 old:∀ b,b<w.heap.size->w'.heap[b]?=w.heap[b]?
 new:w'.heap[w.heap.size]?=some (.cells c ty (0,0))
theorem Grown.of {w w':World} {c:Array Value} {ty:TypeId} (os:w'.os=w.os) (tape:w'.tape=w.tape) (output:w'.output=w.output) (hh:w'.heap=w.heap.push (.cells c ty)):Grown w w' c ty :=
 ⟨os,tape,output,by grind,fun b hb=>by grind,by grind⟩
theorem Grown.alloc (w:World) (c:Array Value) (ty:TypeId):Grown w (w.alloc (.cells c ty)) c ty:=.of rfl rfl rfl rfl
theorem Grown.drew (w:World) (c:Array Value) (ty:TypeId):Grown w (w.drew.alloc (.cells c ty)) c ty:=.of rfl rfl rfl rfl
def Phi.add (φ:Phi) (n:Nat) (L:Lc):Phi:=⟨fun m=>if m=n then some L else φ m,φ.k,φ.g⟩
theorem Phi.add_same (φ:Phi) (n:Nat) (L:Lc):φ.add n L n=some L:=by simp[Phi.add]
theorem Phi.add_ne (φ:Phi) {n:Nat} (L:Lc) (k:m≠n):φ.add n L m=φ m:=by simp[Phi.add,k]
theorem Rel.le_add (k:Rel A φ h w) (L:Lc):φ.le (φ.add h.next L):=by
 refine⟨fun n M e=>?_,fun _ _ e=>e⟩
 rw[Phi.add_ne φ L]
 .omega
 .rintro rfl;rw[k.dom _ (f0h _)] at e;grind
theorem Rel.push (k:Rel A φ h w) (h1:0<=h.next) (h2:jaq h.hid h.next=false) {c:Array Value} {ty:TypeId} (g:Grown w w' c ty)
 (hl:cs.length<=c.size) (hxb:ty=bT->c.size=cs.length) (hc:∀ (i:Nat) sv,cs[i]?=some sv->∃ v,c[i]?=some v/\cS A φ sv v) :
 Step (fun _=>False) φ (φ.add h.next ⟨w.heap.size,0,c.size⟩) h (h.push (.arr cs ty)) w w'/\Rel A (φ.add h.next ⟨w.heap.size,0,c.size⟩) (h.push (.arr cs ty)) w':=by
 have hle:=k.le_add ⟨w.heap.size,0,c.size⟩
 have hget:∀ n,n≠h.next->(h.push (.arr cs ty)).get n=h.get n:=fun n hn=>by
  rw[Hp.get_eq,Hp.get_eq,k.wf.push_ne h1 _ hn];rfl
 have hkn:∀ b,w.heap.size<=b->φ.k b=none:=fun b hb=>by
  cases e:φ.k b with
  | none=>rfl
  | some cs=>exact absurd (k.conLt e) oa
 refine⟨⟨Abs.push _ k.wf h1 h2 _,fun n hn=>Phi.add_ne _ _ oa,fun _ _ e=>e,fun _ _ e=>.inl e,g.os,g.tape,g.output,by rw[g.size];omega,fun b hb _=>g.old b hb,fun n L hn hs hL=>?_⟩,⟨k.wf.push h1 _,fun n hn=>?_,fun n x hx=>?_,?_,fun b cs' e=>?_,fun n L hn hL=>?_⟩⟩
 .by_cases e:n=h.next
  .subst e;rw[Phi.add_same] at hL;cases hL;exact .inl (f0h _)
  .rw [Phi.add_ne _ _ e,k.dom n hn] at hL;cases hL
 .simp at hn;rw[Phi.add_ne _ _ oa];exact k.dom n oa
 .by_cases e:n=h.next
  .subst e
   obtain⟨_,hx⟩:=Hp.get_some hx
   rw[k.wf.push_same h1] at hx
   cases hx
   exact⟨_,c,Phi.add_same _ _ _,g.new,rfl,⟨by simpa using hl,fun e=>⟨rfl,hxb e⟩⟩,fun i sv hi=>let ⟨v,a,b⟩:=hc i sv hi;⟨v,by simpa using a,b.mono hle⟩⟩
  .rw [hget n e] at hx
   exact((k.blk n x hx).mono hle).world (fun L hL=>by
    rw[Phi.add_ne _ _ e] at hL
    obtain⟨L',hL',hb⟩:=(k.blk n x hx).some_loc
    rw[hL] at hL';cases hL'
    exact g.old _ hb)
 .have key:∀ n m L M,n=h.next->m≠h.next->((h.push (.arr cs ty)).get m).isSome=true->φ.add h.next ⟨w.heap.size,0,c.size⟩ n=some L->φ.add h.next ⟨w.heap.size,0,c.size⟩ m=some M->L.b≠M.b:=by
   intro n m L M en em hm hL hM
   subst en
   rw[hget m em] at hm
   rw[Phi.add_same] at hL
   rw[Phi.add_ne _ _ em] at hM
   cases hL
   obtain⟨M',hM',hb⟩:=k.loc hm
   rw[hM] at hM';cases hM'
   exact fun e=>by simp at e;omega
  intro n m L M hn hm hL hM e
  by_cases en:n=h.next
  .by_cases em:m=h.next
   .rw [en,em]
   .exact absurd e (key n m L M en em hm hL hM)
  .by_cases em:m=h.next
   .exact absurd e.symm (key m n M L em en hn hM hL)
   .rw [hget n en] at hn
    rw[hget m em] at hm
    rw[Phi.add_ne _ _ en] at hL
    rw[Phi.add_ne _ _ em] at hM
    exact k.inj n m L M hn hm hL hM e
 .have e':φ.k b=some cs':=e
  obtain⟨ty',h3⟩:=k.con b cs' e'
  exact⟨ty',by rw[g.old b (k.conLt e')];exact h3⟩
 .show φ.k L.b=none
  by_cases en:n=h.next
  .subst en
   rw[Phi.add_same] at hL
   cases hL
   exact hkn _ (f0h _)
  .rw [hget n en] at hn
   rw[Phi.add_ne _ _ en] at hL
   exact k.sep n L hn hL
structure Changed (w w':World) (b:Nat) (c:Array Value) (ty:TypeId):Prop where
 os:w'.os=w.os
 tape:w'.tape=w.tape
 output:w'.output=w.output
 size:w'.heap.size=w.heap.size
 old:∀ k,k≠b->w'.heap[k]?=w.heap[k]?
 new:w'.heap[b]?=some (.cells c ty (0,0))
theorem Changed.row {w:World} {cur:Array Value} {ty:TypeId} (hb:w.heap[b]?=some (.cells cur ty (0,0))) (c:Array Value):Changed w (w.setRow b c) b c ty :=
 ⟨rfl,rfl,rfl,se,fun k hk=>setRow_other w b k c hk,setRow_heap w b cur c ty _ hb⟩
theorem Rel.put (k:Rel A φ h w) {off:Nat} {xs:List SV} (hw:wr h b off xs=some h') {vs:List Value} (hv:All2 (cS A φ) xs vs) :
 ∃ L c ty,φ b=some L/\(h.get b).isSome=true/\w.heap[L.b]?=some (.cells c ty (0,0))/\L.o+off+vs.length<=c.size /\
  ∀ w',Changed w w' L.b (c.toList.take (L.o+off)++vs++c.toList.drop (L.o+off+vs.length)).toArray ty->Step (fun n=>n=b) φ φ h h' w w'/\Rel A φ h' w':=by
 obtain⟨_,cs,ty,hg,hl,rfl⟩:=jle hw
 have hvl:=hv.len
 obtain⟨L,c,h1,h3,h4,h5,h6⟩:=k.blk b _ hg
 have hgs:(h.get b).isSome=true:=by grind
 obtain⟨e1,e2⟩:=Hp.get_isSome hgs
 refine⟨L,c,ty,h1,hgs,h3,oa,fun w' g=>?_⟩
 have hget:∀ n,n≠b->(h.put b (some (.arr (cs.take off++(xs++cs.drop (off+xs.length))) ty))).get n=h.get n:=fun n hn=>by
  rw[Hp.get_eq,Hp.get_eq,k.wf.put_ne e2 _ hn,Hp.hid_put]
 have hsame:∀ n,((h.put b (some (.arr (cs.take off++(xs++cs.drop (off+xs.length))) ty))).get n).isSome=true->(h.get n).isSome=true:=fun n hn=>by
  by_cases e:n=b
  .subst e;exact hgs
  .rwa [hget n e] at hn
 refine⟨⟨Abs.put k.wf hgs _,fun _ _=>rfl,fun _ _ e=>e,fun _ _ e=>.inl e,g.os,g.tape,g.output,by rw[g.size];exact f0h _,fun p hp hv=>?_,fun n L a b c=>by rw[k.dom n a] at c;cases c⟩,⟨k.wf.put e2 _,by simpa using k.dom,fun n x hx=>?_,fun n m L M hn hm=>k.inj n m L M (hsame n hn) (hsame m hm),fun p cs' e=>?_,fun n M hn hM=>k.sep n M (hsame n hn) hM⟩⟩
 .exact g.old p (fun e=>hv b L rfl hgs h1 e.symm)
 .by_cases e:n=b
  .subst e
   obtain⟨_,hx⟩:=Hp.get_some hx
   rw[k.wf.put_same e2] at hx
   cases hx
   refine⟨L,_,h1,g.new,by simp;omega,⟨by simp;omega,fun e=>⟨(h5.2 e).1,by rw[(h5.2 e).2];simp;omega⟩⟩,fun i sv hi=>?_⟩
   rw[f2n] at hi
   split at hi
   .rename_i hlt
    rw[f1r] at hlt
    rw[f1y oa] at hi
    obtain⟨v,a,b⟩:=h6 i sv hi
    refine⟨v,?_,b⟩
    rw[←a]
    simp only[f2k,f0g]
    rw[f07 (by simp;omega),f1y oa]
    simp
   .rename_i hge
    rw[f1r] at hge hi
    rw[f2n] at hi
    split at hi
    .rename_i hlt
     obtain⟨v,a,b⟩:=hv.get _ _ hi
     refine⟨v,?_,b⟩
     rw[←a]
     simp only[f2k,f0g]
     rw[f0x (by simp;omega),f07 (by simp;omega)]
     congr 1
     simp
     omega
    .rename_i hge2
     rw[f1h] at hi
     obtain⟨v,a,b⟩:=h6 i sv (by rw[←hi];congr 1;omega)
     refine⟨v,?_,b⟩
     rw[←a]
     simp only[f2k,f0g]
     rw[f0x (by simp;omega),f0x (by simp;omega),f1h]
     simp only[f1r,f16]
     rw[f1g]
     congr 1
     omega
  .rw [hget n e] at hx
   refine(k.blk n x hx).world (fun M hM=>g.old _ (fun e'=>e ?_))
   exact k.inj n b M L (by rw[hx];rfl) hgs hM h1 e'
 .obtain ⟨ty',h7⟩:=k.con p cs' e
  exact⟨ty',by rw[g.old p (fun e'=>by have:=k.sep b L hgs h1;rw[←e',e] at this;cases this)];exact h7⟩
theorem Rel.app (k:Rel A φ h w) {x:AB} (hg:h.get b=some x) {L:Lc} {c c':Array Value} {ty:TypeId} (hL:φ b=some L) (hlim:c.size=L.lim)
 (h1:0<=h.next) (h2:jaq h.hid h.next=false) (g:Changed w w' L.b c' ty) (hs:c'.size=c.size) (o:Nat) {cs:List SV} (hl:o+cs.length<=c.size) (hEb:ty≠bT)
 (hc:∀ (i:Nat) sv,cs[i]?=some sv->∃ v,c'[o+i]?=some v/\cS A φ sv v) :
 Step (fun n=>n=b) φ (φ.add h.next ⟨L.b,o,L.lim⟩) h ((h.put b none).push (.arr cs ty)) w w'/\Rel A (φ.add h.next ⟨L.b,o,L.lim⟩) ((h.put b none).push (.arr cs ty)) w':=by
 have hle:=k.le_add ⟨L.b,o,L.lim⟩
 have hgs:(h.get b).isSome=true:=by rw[hg];rfl
 obtain⟨e1,e2⟩:=Hp.get_isSome hgs
 have hbn:b≠h.next:=by have:=k.wf.lt e2;omega
 have wf1:WF (h.put b none):=k.wf.put e2 _
 have h1':0<=(h.put b none).next:=f15 _
 have hget:∀ n,n≠h.next->n≠b->((h.put b none).push (.arr cs ty)).get n=h.get n:=fun n hn hb=>by
  rw[Hp.get_eq,Hp.get_eq,wf1.push_ne h1' _ (by simpa using hn),k.wf.put_ne e2 _ hb];simp
 have hgb:((h.put b none).push (.arr cs ty)).get b=none:=by
  rw[Hp.get_eq,wf1.push_ne h1' _ (by simpa using hbn),k.wf.put_same e2];split<;>rfl
 have hother:∀ n,n≠h.next->(((h.put b none).push (.arr cs ty)).get n).isSome=true->n≠b/\(h.get n).isSome=true:=fun n hn hs=>by
  by_cases e:n=b
  .subst e;rw[hgb] at hs;cases hs
  .rw [hget n hn e] at hs;exact⟨e,hs⟩
 refine⟨⟨(Abs.put k.wf hgs none).trans ((Abs.push _ wf1 h1' (by simpa using h2) _)),fun n hn=>Phi.add_ne _ _ oa,fun _ _ e=>e,fun _ _ e=>.inl e,g.os,g.tape,g.output,by rw[g.size];exact f0h _,fun p hp hv=>g.old p (fun e=>hv b L rfl hgs hL e.symm),fun n M hn hs hM=>?_⟩,⟨wf1.push h1' _,fun n hn=>?_,fun n y hy=>?_,?_,fun p cs' e=>?_,fun n M hn hM=>?_⟩⟩
 .by_cases e:n=h.next
  .subst e;rw[Phi.add_same] at hM;cases hM;exact .inr ⟨b,L,rfl,hgs,hL,rfl⟩
  .rw [Phi.add_ne _ _ e,k.dom n hn] at hM;cases hM
 .simp at hn;rw[Phi.add_ne _ _ oa];exact k.dom n oa
 .by_cases e:n=h.next
  .subst e
   obtain⟨_,hy⟩:=Hp.get_some hy
   have e3:((h.put b none).push (.arr cs ty)).tr.get h.next=some (.arr cs ty):=by
    have:=wf1.push_same h1' (.arr cs ty)
    rwa [Hp.next_put] at this
   rw[e3] at hy
   cases hy
   exact⟨_,c',Phi.add_same _ _ _,g.new,by simp[hs,hlim],⟨by simp;omega,fun e=>absurd e hEb⟩,fun i sv hi=>let ⟨v,a,b⟩:=hc i sv hi;⟨v,by simpa using a,b.mono hle⟩⟩
  .obtain ⟨hb,hs'⟩:=hother n e (by rw[hy];rfl)
   rw[hget n e hb] at hy
   refine((k.blk n y hy).mono hle).world (fun M hM=>g.old _ (fun e'=>hb ?_))
   rw[Phi.add_ne _ _ e] at hM
   exact k.inj n b M L hs' hgs hM hL e'
 .have key:∀ n m M N,n=h.next->m≠h.next->(((h.put b none).push (.arr cs ty)).get m).isSome=true->φ.add h.next ⟨L.b,o,L.lim⟩ n=some M->φ.add h.next ⟨L.b,o,L.lim⟩ m=some N->M.b≠N.b:=by
   intro n m M N en em hm hM hN
   subst en
   obtain⟨hb,hm'⟩:=hother m em hm
   rw[Phi.add_same] at hM
   rw[Phi.add_ne _ _ em] at hN
   cases hM
   exact fun e=>hb (k.inj m b N L hm' hgs hN hL e.symm)
  intro n m M N hn hm hM hN e
  by_cases en:n=h.next
  .by_cases em:m=h.next
   .rw [en,em]
   .exact absurd e (key n m M N en em hm hM hN)
  .by_cases em:m=h.next
   .exact absurd e.symm (key m n N M em en hn hN hM)
   .obtain ⟨_,hn'⟩:=hother n en hn
    obtain⟨_,hm'⟩:=hother m em hm
    rw[Phi.add_ne _ _ en] at hM
    rw[Phi.add_ne _ _ em] at hN
    exact k.inj n m M N hn' hm' hM hN e
 .have e':φ.k p=some cs':=e
  obtain⟨ty',h7⟩:=k.con p cs' e'
  exact⟨ty',by rw[g.old p (fun e''=>by have:=k.sep b L hgs hL;rw[←e'',e'] at this;cases this)];exact h7⟩
 .show φ.k M.b=none
  by_cases en:n=h.next
  .subst en
   rw[Phi.add_same] at hM
   cases hM
   exact k.sep b L hgs hL
  .rw [Phi.add_ne _ _ en] at hM
   exact k.sep n M (hother n en hn).2 hM
theorem Rel.kill (k:Rel A φ h w) (hgs:(h.get b).isSome=true):Step (fun n=>n=b) φ φ h (h.put b none) w w/\Rel A φ (h.put b none) w:=by
 obtain⟨e1,e2⟩:=Hp.get_isSome hgs
 have hget:∀ n,n≠b->(h.put b none).get n=h.get n:=fun n hn=>by
  rw[Hp.get_eq,Hp.get_eq,k.wf.put_ne e2 _ hn,Hp.hid_put]
 have hgb:(h.put b none).get b=none:=by
  rw[Hp.get_eq,k.wf.put_same e2];simp
 have hother:∀ n,((h.put b none).get n).isSome=true->n≠b/\(h.get n).isSome=true:=fun n hs=>by
  grind
 refine⟨⟨Abs.put k.wf hgs none,fun _ _=>rfl,fun _ _ e=>e,fun _ _ e=>.inl e,rfl,rfl,rfl,f0h _,fun _ _ _=>rfl,fun n L a _ c=>by rw[k.dom n a] at c;grind⟩,⟨k.wf.put e2 _,by simpa using k.dom,fun n y hy=>?_,fun n m L M hn hm=>k.inj n m L M (hother n hn).2 (hother m hm).2,k.con,fun n L hn hL=>k.sep n L (hother n hn).2 hL⟩⟩
 obtain⟨hb,_⟩:=hother n (by grind)
 rw[hget n hb] at hy
 exact k.blk n y hy
def Phi.cst (φ:Phi) (b:Nat) (c:Array Value):Phi:=⟨φ.m,fun p=>(φ.k p).or (if p=b then some c else none),φ.g.mono (fun p cs e=>by rw[e];rfl)⟩
theorem Phi.cst_same (φ:Phi) (b:Nat) (c:Array Value) (h:φ.k b=none):(φ.cst b c).k b=some c:=by simp[Phi.cst,h]
theorem Rel.cst (k:Rel A φ h w) {c:Array Value} {ty:TypeId} (g:Grown w w' c ty):Step W φ (φ.cst w.heap.size c) h h w w'/\Rel A (φ.cst w.heap.size c) h w':=by
 have hkn:φ.k w.heap.size=none:=by
  cases e:φ.k w.heap.size with
  | none=>rfl
  | some cs=>exact absurd (k.conLt e) oa
 have hk:∀ b cs,φ.k b=some cs->(φ.cst w.heap.size c).k b=some cs:=fun b cs e=>by
  show(φ.k b).or (if b=w.heap.size then some c else none)=some cs
  grind
 have hle:φ.le (φ.cst w.heap.size c):=⟨fun _ _ e=>e,hk⟩
 refine⟨⟨Abs.refl W k.wf,fun _ _=>rfl,hk,fun b cs e=>?_,g.os,g.tape,g.output,by rw[g.size];omega,fun b hb _=>g.old b hb,fun n L hn _ hL=>by rw[show(φ.cst w.heap.size c) n=φ n from rfl,k.dom n hn] at hL;cases hL⟩,⟨k.wf,k.dom,fun n x hx=>?_,k.inj,fun b cs e=>?_,fun n L hn hL=>?_⟩⟩
 .have e':(φ.k b).or (if b=w.heap.size then some c else none)=some cs:=e
  cases hq:φ.k b with
  | some x=>rw[hq] at e';exact .inl e'
  | none =>
   rw[hq,Option.none_or] at e'
   split at e'
   .rename_i h1;exact .inr oa
   .cases e'
 .refine ((k.blk n x hx).mono hle).world (fun L hL=>g.old _ ?_)
  obtain⟨L',hL',hb⟩:=(k.blk n x hx).some_loc
  rw[show(φ.cst w.heap.size c) n=φ n from rfl,hL'] at hL
  cases hL
  exact hb
 .have e':(φ.k b).or (if b=w.heap.size then some c else none)=some cs:=e
  cases hq:φ.k b with
  | some x =>
   rw[hq] at e'
   cases e'
   obtain⟨ty',h3⟩:=k.con b cs hq
   exact⟨ty',by rw[g.old b (k.conLt hq)];exact h3⟩
  | none =>
   rw[hq,Option.none_or] at e'
   split at e'
   .rename_i h1
    cases e'
    exact⟨(ty,0,0),by rw[h1];exact g.new⟩
   .cases e'
 .obtain ⟨L',hL',hb⟩:=k.loc hn
  have e:L'=L:=Option.some.inj (hL'.symm.trans hL)
  subst e
  show(φ.k L'.b).or (if L'.b=w.heap.size then some c else none)=none
  rw[if_neg oa,Option.or_none]
  exact k.sep n L' hn hL'
end
def qvm:TypeDesc->Bool
 | .struct _=>true
 | .array _ _=>true
 | _=>false
def j6o (P:Program) (d:TypeDesc):TK->Prop
 | .int k=>d=.int k
 | .bool=>d=.bool
 | .slice e=>d=.slice e
 | .array n e=>d=.array n e
 | .struct fs=>∃ fields:Array Field,d=.struct fields/\fs=fields.toList.map (fun f=>(f.offset,f.type))/\∀ f∈fields.toList,∃ i,P.info? f.type=some i
 | .map k e=>d=.map k e
 | .ptr e=>d=.pointer e
 | .str=>d=.string
 | .ifc=>∃ ms,d=.interface ms
 | .other=>True
def jjt (P:Program) (g:TypeId->Option (List Bool)):List Field->Nat->Option (List Bool)
 | [],_=>some []
 | f::r,off=>if f.name="_" then none else if f.offset≠off then none else match g f.type,P.info? f.type with
  | some s,some i=>if i.size=s.length/\s.length≠0 then (match jjt P g r (off+s.length) with
   | some l=>some (s++l)
   | none=>none) else none
  | _,_=>none
def jqk (P:Program):Nat->TypeId->Option (List Bool)
 | 0,_=>none
 | d+1,t=>match P.underlying t with
  | some .bool=>some [true]
  | some (.int _)=>some [false]
  | some (.struct fs)=>if P.stoodInHeld t then none else jjt P (jqk P d) fs.toList 0
  | some (.array n e)=>if jqk P d e=some [false]/\(P.info? e).map (fun i=>i.size)=some 1 then some (List.replicate n false) else none
  | _=>none
def j6p:Value->Bool
 | .agg _=>true
 | _=>false
structure TIok (P:Program) (t:TypeId) (ti:TI):Prop where
 ex:∃ i z d,P.info? t=some i/\i.zero=some z/\i.size=ti.size/\i.bytes=ti.bytes/\(∀ A φ,All2 (cS A φ) ti.zero z.cells.toList)/\P.underlying t=some d/\ti.agg=qvm d/\j6o P d ti.kind/\ti.zero.length=ti.size
 eq:∀ sig,ti.eq=some sig->jqk P 10000 t=some sig/\P.eqGuardType P.depth t=false
 shape:∀ i z,P.info? t=some i->i.zero=some z->j6p z=ti.agg
def Tys (P:Program) (T:Tr TI):Prop:=∀ t ti,jjo T t=some ti->TIok P t ti
section
variable {P:Program} {w:World} {t:TypeId} {ti:TI}
theorem TIok.run_size (k:TIok P t ti):(sizeOf t).run P w=.ok ti.size w:=by
 obtain⟨i,z,d,h1,h2,h3,_⟩:=k.ex
 simp[sizeOf,typeInfo,h1,h3]
theorem TIok.run_zero (k:TIok P t ti):∃ z,(zeroValue t).run P w=.ok z w/\(∀ A φ,All2 (cS A φ) ti.zero z.cells.toList)/\ti.zero.length=ti.size:=by
 obtain⟨i,z,d,h1,h2,h3,h4,h5,_,_,_,h6⟩:=k.ex
 exact⟨z,by simp[zeroValue,typeInfo,h1,h2],h5,h6⟩
theorem TIok.run_agg (k:TIok P t ti):(isAgg t).run P w=.ok ti.agg w:=by
 obtain⟨i,z,d,h1,h2,h3,h4,h5,h6,h7,_⟩:=k.ex
 simp only[isAgg,Sem.run_bind,run_underlying h6,h7]
 cases d<;>rfl
theorem TIok.und (k:TIok P t ti):∃ d,P.underlying t=some d/\j6o P d ti.kind:=by
 obtain⟨i,z,d,_,_,_,_,_,h6,_,h7,_⟩:=k.ex
 grind
theorem jb2 {T:Tr TI} (hT:Tys P T) {x:TypeId×TI} (h:jbw T t=some x):P.underlying t=some (.slice x.1)/\TIok P x.1 x.2/\x.2.size≠0:=by
 unfold jbw at h
 split at h
 .rename_i ti hti
  split at h
  .rename_i e he
   split at h
   .rename_i z hz
    cases hb:Nat.beq z.size 0 with
    | true=>grind
    | false =>
     rw[hb] at h
     cases h
     obtain⟨d,h1,h2⟩:=(hT t ti hti).und
     rw[he] at h2
     exact⟨h1.trans (congrArg some h2),hT _ _ hz,fun e=>by simp_all⟩
   grind
  grind
 grind
theorem jhl {T:Tr TI} (hT:Tys P T) {x:Nat×TI} (h:jlc T t=some x):∃ e,P.underlying t=some (.array x.1 e)/\TIok P e x.2/\x.2.size≠0:=by
 unfold jlc at h
 split at h
 .rename_i ti hti
  split at h
  .rename_i n e he
   split at h
   .rename_i z hz
    cases hb:Nat.beq z.size 0 with
    | true=>grind
    | false =>
     rw[hb] at h
     cases h
     obtain⟨d,h1,h2⟩:=(hT t ti hti).und
     rw[he] at h2
     exact⟨e,h1.trans (congrArg some h2),hT _ _ hz,fun e=>by simp at e;rw[e] at hb;cases hb⟩
   grind
  grind
 grind
theorem jod {T:Tr TI} (hT:Tys P T) (h:jc2 T t=true):P.underlying t=some .string:=by
 unfold jc2 at h
 split at h
 .rename_i ti hti
  split at h
  .rename_i he
   obtain⟨d,h1,h2⟩:=(hT t ti hti).und
   rw[he] at h2
   exact h1.trans (congrArg some h2)
  grind
 grind
theorem jr9 {T:Tr TI} (hT:Tys P T) {f:Nat} {x:Nat×TI} (h:jmw T t f=some x):∃ fields:Array Field,∃ fd:Field,P.underlying t=some (.struct fields)/\fields[f]?=some fd/\fd.offset=x.1/\TIok P fd.type x.2/\x.2.size≠0:=by
 unfold jmw at h
 split at h
 .rename_i ti hti
  split at h
  .rename_i fs he
   split at h
   .rename_i p hp
    split at h
    .rename_i z hz
     cases hb:Nat.beq z.size 0 with
     | true=>grind
     | false =>
      rw[hb] at h
      cases h
      obtain⟨d,h1,h2⟩:=(hT t ti hti).und
      rw[he] at h2
      obtain⟨fields,rfl,rfl,_⟩:=h2
      rw[f09] at hp
      obtain⟨fd,hfd,rfl⟩:=f0a.1 hp
      exact⟨fields,fd,h1,by simpa using hfd,rfl,hT _ _ hz,fun e=>by simp at e;rw[e] at hb;cases hb⟩
    grind
   grind
  grind
 grind
end
section
variable {β:Type} {A:Nat->Int} {φ:Phi}
theorem jh1 {e:Option β} {x:AV} {f:SV->Option β} {r:β} (h:svc e x f=some r):(∃ s,x=.s s/\f s=some r)∨(x=.undef/\e=some r):=by
 cases x with
 | s x=>exact .inl ⟨x,rfl,h⟩
 | undef=>exact .inr ⟨rfl,h⟩
 | _=>cases h
theorem jcn {x:AV} {f:SV->Option β} {r:β} (h:svc none x f=some r):∃ s,x=.s s/\f s=some r :=
 (jh1 h).elim id fun h=>by grind
theorem jju {v:SV} {f:IntKind->Int->Option β} {r:β} (h:qda v f=some r):∃ k n,v=.int k n/\f k n=some r:=by
 cases v with
 | int k n=>exact⟨k,n,rfl,h⟩
 | _=>cases h
theorem jdy {x:AV} {f:IntKind->Int->Option β} {r:β} (h:jk5 x f=some r):∃ k n,x=.s (.int k n)/\f k n=some r:=by
 obtain⟨s,rfl,h⟩:=jcn h
 grind[jju]
theorem jh2 {v:SV} {f:Bool->Option β} {r:β} (h:jqi v f=some r):∃ b,v=.bool b/\f b=some r:=by
 cases v with
 | bool b=>exact⟨b,rfl,h⟩
 | _=>cases h
theorem jda {x:AV} {f:Bool->Option β} {r:β} (h:jgt x f=some r):∃ b,x=.s (.bool b)/\f b=some r:=by
 obtain⟨s,rfl,h⟩:=jcn h
 grind[jh2]
theorem jjv {x:AV} {f:Nat->Nat->Option β} {r:β} (h:jux x f=some r):∃ b o,x=.s (.ptr b o)/\f b o=some r:=by
 obtain⟨s,rfl,h⟩:=jcn h
 cases s<;>grind
theorem jbz {x:AV} {f:Nat->Nat->Option β} {g:List SV->Option β} {r:β} (h:jeh x f g=some r):(∃ b o,x=.s (.ptr b o)/\f b o=some r)∨∃ cs,x=.s (.cp cs)/\g cs=some r:=by
 obtain⟨s,rfl,h⟩:=jcn h
 cases s<;>grind
theorem jbb {x:AV} {e:Option β} {f:Nat->Nat->Nat->Nat->Bool->Nat->Option β} {g:List (List SV)->Option β} {z:Option β} {r:β} (h:jdh x e f g z=some r) :
 (x=.s .nilSlice/\e=some r)∨(∃ b o n m ex sz,x=.s (.slice b o n m ex sz)/\f b o n m ex sz=some r)∨(∃ rows,x=.s (.lst rows)/\g rows=some r)∨(x=.s .emp/\z=some r):=by
 obtain⟨s,rfl,h⟩:=jcn h
 cases s<;>grind
theorem jgv {A:Nat->Int} {k:Nat->Option (Array Value)} {v:Value} (h:cD A k (.lst rows) v) :
 ∃ ad cap,v=.slice (some ad) rows.length cap/\rows.length<=cap/\(rows=[]∨∃ b o sz cs,k b=some cs/\ad=⟨b,o,none⟩/\(∀ (i:Nat) (row:List SV),rows[i]?=some row->row.length=sz) /\
  ∀ (i j:Nat) (row:List SV) (x:SV),rows[i]?=some row->row[j]?=some x->∃ u,cs[o+i*sz+j]?=some u/\cD A k x u):=by
 cases h with
 | lst0 ad cap=>simp
 | lst _ b o cap sz cs g h1 h2 h3 h4 h5=>exact⟨_,cap,rfl,h2,.inr ⟨b,o,sz,cs,h1,rfl,h3,fun i j row x hr hx=>⟨_,h4 i j row x hr hx,h5 i j row x hr hx⟩⟩⟩
theorem qdg {A:Nat->Int} {k:Nat->Option (Array Value)} {cap lo n:Nat} {cs:Array Value} (h1:k b=some cs) (h2:rows.length<=cap) (h3:∀ (i:Nat) (row:List SV),rows[i]?=some row->row.length=sz)
 (h4:∀ (i j:Nat) (row:List SV) (x:SV),rows[i]?=some row->row[j]?=some x->∃ u,cs[o+i*sz+j]?=some u/\cD A k x u) (h5:lo+n<=rows.length) :
 cD A k (.lst ((rows.drop lo).take n)) (.slice (some ⟨b,o+lo*sz,none⟩) n (cap - lo)):=by
 have hl:((rows.drop lo).take n).length=n:=by grind
 have hg:∀ (i:Nat) (row:List SV),((rows.drop lo).take n)[i]?=some row->rows[lo+i]?=some row:=fun i row h=>by
  grind
 have key:∀ (i j:Nat),∃ u,∀ (row:List SV) (x:SV),rows[lo+i]?=some row->row[j]?=some x->cs[o+(lo+i)*sz+j]?=some u/\cD A k x u:=fun i j=>by
  cases hr:rows[lo+i]? with
  | none=>exact⟨undef,fun _ _ h=>by cases h⟩
  | some row =>
   cases hx:row[j]? with
   | none=>exact⟨undef,fun row' x h h'=>by cases h;rw[hx] at h';cases h'⟩
   | some x =>
    obtain⟨u,a,b⟩:=h4 _ _ _ _ hr hx
    exact⟨u,fun row' x' h h'=>by cases h;rw[hx] at h';cases h';exact⟨a,b⟩⟩
 have e:∀ i j,o+lo*sz+i*sz+j=o+(lo+i)*sz+j:=fun i j=>by rw[f2y];omega
 rw[show(Value.slice (some ⟨b,o+lo*sz,none⟩) n (cap - lo))=.slice (some ⟨b,o+lo*sz,none⟩) ((rows.drop lo).take n).length (cap - lo) by rw[hl]]
 refine .lst _ b (o+lo*sz) (cap - lo) sz cs (fun i j=>Classical.choose (key i j)) h1 (by rw[hl];omega) (fun i row h=>h3 _ _ (hg i row h)) (fun i j row x hr hx=>?_) (fun i j row x hr hx=>?_)
 .rw [e];exact(Classical.choose_spec (key i j) row x (hg i row hr) hx).1
 grind
theorem jh3 {x:AV} {f:FuncId->List (Nat×Nat)->Option β} {r:β} (h:j3x x f=some r):∃ g cs,x=.s (.func g cs)/\f g cs=some r:=by
 obtain⟨s,rfl,h⟩:=jcn h
 cases s<;>grind
theorem jgd {x:AV} {n:Nat} {f:Nat->Option β} {r:β} (h:below x n f=some r):∃ k,∃ m:Nat,x=.s (.int k m)/\m<n/\f m=some r:=by
 obtain⟨k,i,rfl,h⟩:=jdy h
 cases i with
 | ofNat m =>
  obtain⟨h1,h2⟩:=jae.1 h
  exact⟨k,m,rfl,f0l h1,h2⟩
 | negSucc m=>grind
theorem je8 {x:AV} {f:Nat->Option β} {r:β} (h:qhf x f=some r):∃ m:Nat,x=.s (.int .i64 m)/\f m=some r:=by
 obtain⟨k,i,rfl,h⟩:=jdy h
 obtain⟨h1,h2⟩:=jae.1 h
 cases i with
 | ofNat m=>grind[je7]
 | negSucc m=>grind
theorem j0b {v:SV} {f:Sx->Option β} {r:β} (h:vSx v f=some r):∃ e,(∀ A φ x,cS A φ v x->x=.int .i64 (den A e))/\f e=some r:=by
 cases v with
 | int k n =>
  obtain⟨h1,h2⟩:=jae.1 h
  exact⟨_,fun A φ x hx=>by rw[je7 h1] at hx;trivial,h2⟩
 | sym e=>exact⟨e,fun A φ x hx=>hx,h⟩
 | _=>cases h
end
section
variable {P:Program} {w:World} {A:Nat->Int} {φ:Phi}
def cBO:BO->BinOp
 | .add=>.add | .sub=>.sub | .mul=>.mul | .quo=>.quo | .rem=>.rem | .eq=>.eql | .ne=>.neq | .lt=>.lss | .le=>.leq | .gt=>.gtr | .ge=>.geq
 | .and=>.and | .or=>.or | .andNot=>.andNot | .shl=>.shl | .shr=>.shr
theorem j6q {op:BinOp} {o:BO} (h:qvi op=some o):op=cBO o:=by
 cases op<;>simp[qvi] at h<;>subst h<;>rfl
theorem joe {k:IntKind} {n:Int} (h:j6a k n=some v):v=.s (.int k n)/\k.wrap n=n:=by
 obtain⟨h1,h2⟩:=jae.1 h
 grind[Option.some.inj,jjr]
theorem jof {k:IntKind} {n:Int} (h:qc9 k n=some v):v=.s (.int k (k.wrap n)):=by
 have h':oif (inR k n) (some (AV.s (.int k n))) (oif (jn1 k) (some (.s (.int k (IntKind.wrap .i64 n)))) none)=some v:=h
 grind[jat,jjr,jae,je7]
theorem jsa {a b:Int} {f g:Nat->Nat->Option AV} (h:nn3 a b f g=some v):∃ m n:Nat,b=n/\((a=m/\f m n=some v)∨(a=Int.negSucc m/\g m n=some v)):=by
 cases a with
 | ofNat m=>cases b with
  | ofNat n=>exact⟨m,n,rfl,.inl ⟨rfl,h⟩⟩
  | negSucc n=>cases h
 | negSucc m=>cases b with
  | ofNat n=>exact⟨m,n,rfl,.inr ⟨rfl,h⟩⟩
  | negSucc n=>cases h
theorem jog (h:inR .i64 (Int.negSucc m)=true):m<9223372036854775808:=by
 rcases je0 h with⟨_,a,b⟩ | ⟨e,_⟩ | ⟨e,_⟩
 .omega
 .omega
 omega
theorem qhh:BitVec.ofInt 64 (Int.negSucc m) = ~~~ BitVec.ofNat 64 m:=by
 simp
theorem jlf {k:IntKind} (h:inR k (.ofNat m)=true):m<2 ^ k.bits/\(BitVec.ofInt k.bits (m:Int)).toNat=m/\(∀ l:Nat,l<=m->k.wrap l=l):=by
 rcases je0 h with⟨rfl,h1,h2⟩ | ⟨rfl,h1,h2⟩ | ⟨rfl,h1,h2⟩ <;>
  (refine⟨by simp[IntKind.bits] at *;omega,by simp[IntKind.bits] at *;omega,fun l hl=>?_⟩;simp[IntKind.wrap,IntKind.bits,IntKind.signed] at *;omega)
theorem j0c {k:IntKind} {n:Nat} (h:qhd k n=true):min n k.bits=n:=by
 unfold qhd at h
 simp only[jat] at h
 split at h
 .rename_i h1;have:=f0l h1;cases k<;>simp[IntKind.bits]<;>omega
 .split at h
  .rename_i h2
   have:=f0l h2
   split at h
   .rename_i h3;rw[je7 h3];simp[IntKind.bits];omega
   .rw [j6n h];simp[IntKind.bits];omega
  grind
theorem joh {n:Nat} (x y:BitVec n):(x &&& ~~~y).toNat=x.toNat ^^^ (x.toNat &&& y.toNat):=by
 have:x &&& ~~~y=x ^^^ x &&& y:=by
  grind
 grind
theorem qqv {k:IntKind} {n:Nat} (h1:inR k (.ofNat m)=true) (h2:inR k (.ofNat n)=true):k.wrap ((m ||| n:Nat):Int)=((m ||| n:Nat):Int):=by
 rcases je0 h1 with⟨rfl,a1,a2⟩ | ⟨rfl,a1,a2⟩ | ⟨rfl,a1,a2⟩ <;>
 rcases je0 h2 with⟨e,b1,b2⟩ | ⟨e,b1,b2⟩ | ⟨e,b1,b2⟩<;>first | grind | skip
 .have:=Nat.or_lt_two_pow (x:=m) (y:=n) (n:=63) (by grind) (by grind)
  simp[IntKind.wrap,IntKind.bits,IntKind.signed] at *;omega
 .have:=Nat.or_lt_two_pow (x:=m) (y:=n) (n:=8) (by simp at *;omega) (by simp at *;omega)
  simp[IntKind.wrap,IntKind.bits,IntKind.signed] at *;omega
 .have:=Nat.or_lt_two_pow (x:=m) (y:=n) (n:=64) (by simp at *;omega) (by simp at *;omega)
  simp[IntKind.wrap,IntKind.bits,IntKind.signed] at *;omega
theorem joi {o:BO} {k k':IntKind} {a b:Int} (h:juz o k a b=some v) (hk:k=k'∨shk o=true) (t:TypeId) :
 ∃ rv,(Go.binOp (cBO o) t (.int k a) (.int k' b)).run P w=.ok rv w/\cV A φ v rv:=by
 cases o
 case add=>obtain rfl:=hk.resolve_right (by intro h;cases h);obtain rfl:=jof (show qc9 k (qps a b)=some v from h);exact⟨_,by simp[Go.binOp,cBO,Op.intArith]<;>rfl,by rw[j6m];rfl⟩
 case sub=>obtain rfl:=hk.resolve_right (by intro h;cases h);obtain rfl:=jof (show qc9 k (a - b)=some v from h);exact⟨_,by simp[Go.binOp,cBO,Op.intArith]<;>rfl,rfl⟩
 case mul=>obtain rfl:=hk.resolve_right (by intro h;cases h);obtain rfl:=jof (show qc9 k (a*b)=some v from h);exact⟨_,by simp[Go.binOp,cBO,Op.intArith]<;>rfl,rfl⟩
 case quo =>
  obtain rfl:=hk.resolve_right (by intro h;cases h)
  have h':oif (ieq b 0) none (j6a k (a.tdiv b))=some v:=h
  rw[jat] at h'
  split at h'
  .cases h'
  .rename_i h0
   rw[jdi] at h0
   have hb:¬ b=0:=by simpa using h0
   obtain⟨rfl,e⟩:=joe h'
   exact⟨_,by simp[Go.binOp,cBO,Op.intDiv,hb,e]<;>rfl,rfl⟩
 case rem =>
  obtain rfl:=hk.resolve_right (by intro h;cases h)
  have h':oif (ieq b 0) none (j6a k (a.tmod b))=some v:=h
  rw[jat] at h'
  split at h'
  .cases h'
  .rename_i h0
   rw[jdi] at h0
   have hb:¬ b=0:=by simpa using h0
   obtain⟨rfl,e⟩:=joe h'
   exact⟨_,by simp[Go.binOp,cBO,Op.intDiv,hb]<;>rfl,rfl⟩
 case eq=>obtain rfl:=hk.resolve_right (by intro h;cases h);cases (show some (AV.s (.bool (ieq a b)))=some v from h);exact⟨_,by simp[Go.binOp,cBO,Op.intCmp]<;>rfl,by rw[jdi];first | rfl | exact congrArg _ (by rw[f10];simp)⟩
 case ne=>obtain rfl:=hk.resolve_right (by intro h;cases h);cases (show some (AV.s (.bool (jis (ieq a b))))=some v from h);exact⟨_,by simp[Go.binOp,cBO,Op.intCmp]<;>rfl,by rw[jdi,jhk];exact congrArg _ (by rw[f10];simp)⟩
 case lt=>obtain rfl:=hk.resolve_right (by intro h;cases h);cases (show some (AV.s (.bool (jis (ile b a))))=some v from h);exact⟨_,by simp[Go.binOp,cBO,Op.intCmp]<;>rfl,by rw[jem,jhk];exact congrArg _ (by rw[f10];simp)⟩
 case le=>obtain rfl:=hk.resolve_right (by intro h;cases h);cases (show some (AV.s (.bool (ile a b)))=some v from h);exact⟨_,by simp[Go.binOp,cBO,Op.intCmp]<;>rfl,by rw[jem];first | rfl | exact congrArg _ (by rw[f10];simp)⟩
 case gt=>obtain rfl:=hk.resolve_right (by intro h;cases h);cases (show some (AV.s (.bool (jis (ile a b))))=some v from h);exact⟨_,by simp[Go.binOp,cBO,Op.intCmp]<;>rfl,by rw[jem,jhk];exact congrArg _ (by rw[f10];simp)⟩
 case ge=>obtain rfl:=hk.resolve_right (by intro h;cases h);cases (show some (AV.s (.bool (ile b a)))=some v from h);exact⟨_,by simp[Go.binOp,cBO,Op.intCmp]<;>rfl,by rw[jem];first | rfl | exact congrArg _ (by rw[f10];simp)⟩
 case and =>
  obtain rfl:=hk.resolve_right (by intro h;cases h)
  obtain⟨m,n,rfl,⟨rfl,h⟩ | ⟨rfl,h⟩⟩:=jsa h
  .obtain ⟨h1,h⟩:=jae.1 h
   obtain⟨h2,h⟩:=jae.1 h
   cases h
   obtain⟨a1,a2,a3⟩:=jlf h1
   obtain⟨b1,b2,b3⟩:=jlf h2
   refine⟨.int k ((m &&& n:Nat):Int),?_,rfl⟩
   simp only[Go.binOp,cBO,Op.intBits,ne_eq,not_true_eq_false,if_false,Sem.run_pure,BitVec.toNat_and,a2,b2]
   rw[a3 _ Nat.and_le_left]
  .obtain ⟨h0,h⟩:=jae.1 h
   obtain⟨h1,h⟩:=jae.1 h
   obtain⟨h2,h⟩:=jae.1 h
   cases h
   obtain rfl:=je7 h0
   obtain⟨b1,b2,b3⟩:=jlf h2
   have hm:m<2 ^ 64:=by have:=jog h1;omega
   have e1:(BitVec.ofInt 64 (Int.negSucc m) &&& BitVec.ofInt 64 (n:Int)).toNat=n ^^^ (n &&& m):=by
    rw[qhh,BitVec.and_comm,joh,BitVec.toNat_ofNat,f2j hm]
    have b2':(BitVec.ofInt 64 (n:Int)).toNat=n:=b2
    rw[b2']
   refine⟨.int .i64 ((n ^^^ (n &&& m):Nat):Int),?_,rfl⟩
   have hle:n ^^^ (n &&& m)<=n:=by
    have b2':(BitVec.ofInt 64 (n:Int)).toNat=n:=b2
    rw[←e1,BitVec.toNat_and,b2'];exact Nat.and_le_right
   simp only[Go.binOp,cBO,Op.intBits,ne_eq,not_true_eq_false,if_false,Sem.run_pure]
   rw[show IntKind.bits .i64=64 from rfl,e1,b3 _ hle]
 case or =>
  obtain rfl:=hk.resolve_right (by intro h;cases h)
  obtain⟨m,n,rfl,⟨rfl,h⟩ | ⟨rfl,h⟩⟩:=jsa h
  .obtain ⟨h1,h⟩:=jae.1 h
   obtain⟨h2,h⟩:=jae.1 h
   cases h
   obtain⟨a1,a2,a3⟩:=jlf h1
   obtain⟨b1,b2,b3⟩:=jlf h2
   refine⟨.int k ((m ||| n:Nat):Int),?_,rfl⟩
   simp only[Go.binOp,cBO,Op.intBits,ne_eq,not_true_eq_false,if_false,Sem.run_pure,BitVec.toNat_or,a2,b2]
   rw[qqv h1 h2]
  .obtain ⟨h0,h⟩:=jae.1 h
   obtain⟨h1,h⟩:=jae.1 h
   obtain⟨h2,h⟩:=jae.1 h
   cases h
   obtain rfl:=je7 h0
   obtain⟨b1,b2,b3⟩:=jlf h2
   have hm:m<2 ^ 63:=by have:=jog h1;omega
   have b2':(BitVec.ofInt 64 (n:Int)).toNat=n:=b2
   have hle:m ^^^ (m &&& n)<=m:=by
    have e:=joh (BitVec.ofNat 64 m) (BitVec.ofInt 64 (n:Int))
    rw[BitVec.toNat_ofNat,f2j oa,b2'] at e
    rw[←e,BitVec.toNat_and,BitVec.toNat_ofNat,f2j oa]
    exact Nat.and_le_left
   have e1:(BitVec.ofInt 64 (Int.negSucc m) ||| BitVec.ofInt 64 (n:Int)).toNat=2 ^ 64 - 1 - (m ^^^ (m &&& n)):=by
    have e2:BitVec.ofInt 64 (Int.negSucc m) ||| BitVec.ofInt 64 (n:Int) = ~~~ (BitVec.ofNat 64 m &&& ~~~ BitVec.ofInt 64 (n:Int)):=by
     rw[qhh]
     apply BitVec.eq_of_getLsbD_eq
     intro i hi
     simp only[BitVec.getLsbD_and,BitVec.getLsbD_not,BitVec.getLsbD_or,hi,decide_true,Bool.true_and]
     cases (BitVec.ofNat 64 m).getLsbD i<;>cases (BitVec.ofInt 64 (n:Int)).getLsbD i<;>rfl
    rw[e2,BitVec.toNat_not,joh,BitVec.toNat_ofNat,f2j oa,b2']
   refine⟨.int .i64 (Int.negSucc (m ^^^ (m &&& n))),?_,rfl⟩
   simp only[Go.binOp,cBO,Op.intBits,ne_eq,not_true_eq_false,if_false,Sem.run_pure]
   rw[show IntKind.bits .i64=64 from rfl,e1]
   generalize m ^^^ (m &&& n)=q at hle
   have:IntKind.wrap .i64 ((2 ^ 64 - 1 - q:Nat):Int)=Int.negSucc q:=by
    simp only[IntKind.wrap,IntKind.bits,IntKind.signed]
    have h2:(2:Nat) ^ 64=18446744073709551616:=by decide
    have h3:(2:Nat) ^ 63=9223372036854775808:=by decide
    have:Int.negSucc q=-(q:Int) - 1:=oa
    simp
    omega
   rw[this]
 case andNot=>cases h
 case shl=>cases h
 case shr =>
  obtain⟨m,n,rfl,⟨rfl,h⟩ | ⟨rfl,h⟩⟩:=jsa h
  .obtain ⟨h1,h⟩:=jae.1 h
   cases h
   have hm:=j0c h1
   refine⟨_,?_,rfl⟩
   have e':(m:Int).fdiv (2 ^ n)=Int.ofNat (Nat.div m (Nat.pow 2 n)):=by
    rw[Int.fdiv_eq_ediv_of_nonneg _ (by exact Int.le_of_lt (Int.pow_pos (by decide)))]
    have:Int.ofNat (Nat.div m (Nat.pow 2 n))=((m / 2 ^ n:Nat):Int):=rfl
    rw[this,Int.natCast_ediv,Int.natCast_pow];rfl
   have hn:¬ ((n:Int)<0):=oa
   simp only[Go.binOp,cBO,Op.shift,hn,if_false,f1k,hm,Sem.run_pure,e']
  .obtain ⟨h1,h⟩:=jae.1 h
   cases h
   have hm:=j0c h1
   refine⟨_,?_,rfl⟩
   have e':(Int.negSucc m).fdiv (2 ^ n)=Int.negSucc (Nat.div m (Nat.pow 2 n)):=by
    obtain⟨q,hq⟩:∃ q,2 ^ n=q+1:=⟨2 ^ n - 1,by have:=Nat.two_pow_pos n;omega⟩
    have h2:(2:Int) ^ n=((q+1:Nat):Int):=by rw[←hq,Int.natCast_pow];rfl
    have h3:Nat.pow 2 n=q+1:=hq
    rw[h2,h3];rfl
   have hn:¬ ((n:Int)<0):=oa
   simp only[Go.binOp,cBO,Op.shift,hn,if_false,f1k,hm,Sem.run_pure,e']
theorem joj {o:BO} {e e':Sx} (h:j3y o e e'=some v) (t:TypeId) :
 ∃ rv,(Go.binOp (cBO o) t (.int .i64 (den A e)) (.int .i64 (den A e'))).run P w=.ok rv w/\cV A φ v rv:=by
 cases (show(none:Option AV)=some v from h)
theorem jx7 {o:BO} {b:SV} {x y:Value} (h:jel o a b=some v) (hx:cS A φ a x) (hy:cS A φ b y) (t:TypeId) :
 ∃ rv,(Go.binOp (cBO o) t x y).run P w=.ok rv w/\cV A φ v rv:=by
 cases a with
 | int k m =>
  cases (show x=.int k m from hx)
  cases b with
  | int k' n =>
   cases (show y=.int k' n from hy)
   have h':oif (Nat.beq (ikn k) (ikn k')) (juz o k m n) (oif (shk o) (juz o k m n) none)=some v:=h
   rw[jat] at h'
   split at h'
   .rename_i h1;exact joi h' (.inl (jn7 h1)) t
   simp_all[jae,joi]
  | sym e =>
   cases (show y=.int .i64 (den A e) from hy)
   obtain⟨h1,h'⟩:=jae.1 (show oif (jn1 k) (j3y o (.lit m) e) none=some v from h)
   rw[je7 h1]
   exact joj h' t
  | _=>cases h
 | sym e =>
  cases (show x=.int .i64 (den A e) from hx)
  obtain⟨e',h1,h2⟩:=j0b (show vSx b (fun e'=>j3y o e e')=some v from h)
  cases h1 _ _ _ hy
  exact joj h2 t
 | _=>cases h
end
section
variable {P:Program} {T:Tr TI} {w:World} {A:Nat->Int} {φ:Phi}
def jmo (A:Nat->Int) (φ:Phi) (π:List Nat) (loc:List (Option Nat)) (st fr:List AV) (os:List Operand) (ρ:Operand->Value):Prop :=
 ∀ x,x∈os->∀ y v,cO π loc x=some y->ev st fr y=some v->cV A φ v (ρ x)
theorem jb3 {c:Callee} {args:Array Operand} {ts:Array TypeId} {x:Operand} (h:x∈args.toList):x∈(Op.call ⟨c,args,ts⟩).operands.toList:=by
 simp only[Op.operands,Call.operands,Array.toList_append,f0e]
 exact .inr h
theorem j34 {f:Operand} {args:Array Operand} {ts:Array TypeId}:f∈(Op.call ⟨.value f,args,ts⟩).operands.toList:=by
 simp[Op.operands,Call.operands]
theorem jjw {α β:Type} {f:α->Sem β} {g:α->β}:∀ (l:List α),(∀ x∈l,(f x).run P w=.ok (g x) w)->(l.mapM f).run P w=.ok (l.map g) w
 | [],_=>se
 | a::l,h=>by
  have ih:=jjw l (fun x hx=>h x (by simp[hx]))
  simp[h a se,ih]
theorem qdh {α β:Type} {f:α->Sem β} {g:α->β} (l:Array α) (h:∀ x∈l.toList,(f x).run P w=.ok (g x) w):(l.mapM f).run P w=.ok (l.map g) w:=by
 obtain⟨l⟩:=l
 simp only[List.mapM_toArray,Sem.run_map,jjw l h,Result.andThen_ok,List.map_toArray]
theorem ju3 (off:Nat):∀ (l:List Value) (k:Nat) (arr:Array Value),off+k+l.length<=arr.size ->
 ((l.zipIdx k).foldl (fun a p=>a.setIfInBounds (off+p.2) p.1) arr).toList=arr.toList.take (off+k)++(l++arr.toList.drop (off+k+l.length))
 | [],k,arr,h=>se
 | v::l,k,arr,h=>by
  simp only[f0i] at h
  rw[List.zipIdx_cons,f25,ju3 off l (k+1) _ (by simp;omega)]
  have e:=list_seg_step arr.toList (off+k) v l (by simp;omega)
  simp only[Array.toList_setIfInBounds,f0i]
  have e1:off+(k+1)=off+k+1:=oa
  rw[e1]
  simpa[f0g] using e
theorem j35 (off:Nat) (cs arr:Array Value) (h:off+cs.size<=arr.size) :
 (cs.zipIdx.foldl (fun a (p:Value×Nat)=>a.setIfInBounds (off+p.2) p.1) arr).toList=arr.toList.take off++(cs.toList++arr.toList.drop (off+cs.size)):=by
 have:=ju3 off cs.toList 0 arr (by simpa using h)
 rw[←Array.foldl_toList,Array.toList_zipIdx]
 simpa using this
theorem jh4 {π:List Nat} {loc:List (Option Nat)} {st fr:List AV} {os:List Operand} {ρ:Operand->Value} (hE:jmo A φ π loc st fr os ρ) {place:Nat->Option (Nat×Nat)} :
 ∀ (ps:List (Nat×Operand)) (l:List (Nat×Nat×Od)) (cs cs':List SV) (arr:Array Value),(∀ p,p∈ps->p.2∈os)->jhh π loc place ps=some l->fill st fr l cs=some cs'->All2 (cS A φ) cs arr.toList ->
  ∃ arr':Array Value,Instr.fill place arr (ps.map fun p=>(p.1,ρ p.2))=some arr'/\All2 (cS A φ) cs' arr'.toList
 | [],l,cs,cs',arr,hm,h,h',ha=>by
  simp[jhh] at h
  subst h
  cases (show some cs=some cs' from h')
  exact⟨arr,rfl,ha⟩
 | (i,o)::ps,l,cs,cs',arr,hm,h,h',ha=>by
  simp only[jhh] at h
  split at h
  .rename_i off n y l' hp ho hl
   cases h
   have h2:ob (ev st fr y) (fun v=>cel v (fun xs=>oif (Nat.beq (jb6 xs) n) (ob (jbo off xs cs) (fill st fr l')) none))=some cs':=h'
   obtain⟨v,hv,h3⟩:=jaa.1 h2
   obtain⟨xs,h4,h5⟩:=(hE _ (hm (i,o) se) _ _ ho hv).cells h3
   obtain⟨h6,h7⟩:=jae.1 h4
   obtain⟨cs1,h8,h9⟩:=jaa.1 h7
   obtain⟨h10,rfl⟩:=(jfv _).1 h8
   rw[jiu,jba] at h6
   have hxl:=h5.len
   have hal:=ha.len
   simp only[f16] at hxl hal
   have hfc:=j35 off (ρ o).cells arr oa
   obtain⟨arr',h11,h12⟩:=jh4 hE ps l' _ cs' _ (fun p hp=>hm p (by simp[hp])) hl h9 (by rw[hfc];exact(ha.take off).append (h5.append (by rw[hxl];exact ha.drop _)))
   refine⟨arr',?_,h12⟩
   simp only[f0u,Instr.fill,hp]
   rw[if_neg (by simp;omega)]
   exact h11
  .cases h
theorem jdr {π:List Nat} {loc:List (Option Nat)} {st fr:List AV} {os:List Operand} {ρ:Operand->Value} (hE:jmo A φ π loc st fr os ρ) {x:Option Operand} (hm:∀ o,x=some o->o∈os) {y:Option Od} {e n:Nat} (h:cOo π loc x=some y) (h':jr3 st fr y e=some n) :
 (x=none/\n=e)∨∃ o k,x=some o/\ρ o=.int k (n:Int):=by
 cases x with
 | none =>
  cases (show some none=some y from h)
  exact .inl ⟨rfl,(Option.some.inj (show some e=some n from h')).symm⟩
 | some o =>
  obtain⟨z,hz,rfl⟩:=f0a.1 (show(cO π loc o).map some=some y from h)
  obtain⟨v,hv,h2⟩:=jaa.1 (show ob (ev st fr z) (fun x=>jk5 x (fun _ n=>Int.casesOn n (fun m=>some m) (fun _=>none)))=some n from h')
  obtain⟨k,i,rfl,h3⟩:=jdy h2
  cases i with
  | ofNat m=>cases h3;exact .inr ⟨o,k,rfl,hE _ (hm o rfl) _ _ hz hv⟩
  | negSucc m=>cases h3
theorem jjx {t e:TypeId} (hu:P.underlying t=some (.slice e)) (hs:(sizeOf e).run P w=.ok size w) (a:Option Addr) (len cap lo hi:Nat) (x y:Option Value)
 (hx:(x=none/\lo=0)∨∃ k,x=some (.int k (lo:Int))) (hy:(y=none/\hi=len)∨∃ k,y=some (.int k (hi:Int))) (h1:lo<=hi) (h2:hi<=cap) :
 (Instr.sliceAt t (.slice a len cap) x y none).run P w=.ok (.slice (if cap=lo then a else a.map (·.add (lo*size))) (hi - lo) (cap - lo)) w:=by
 have h1':(lo:Int)<=(hi:Int):=oa
 have h2':(hi:Int)<=(cap:Int):=oa
 rcases hx with⟨rfl,rfl⟩ | ⟨k,rfl⟩<;>rcases hy with⟨rfl,rfl⟩ | ⟨k',rfl⟩ <;>
  simp[Instr.sliceAt,run_underlying hu,Instr.slice,Instr.sliceBounds,Instr.sliceBound,asIntOf,hs,h1,h2]<;>first | (intros;omega) | skip
theorem jcc (b o n:Nat):(⟨b,o,none⟩:Addr).add n=⟨b,o+n,none⟩:=by
 unfold Addr.add
 split
 .rename_i h;simp[h]
 .rfl
theorem jx8 {e:TypeId} {off len mc lo hi:Nat} {ex:Bool} {t:TypeId} {x:Value} (hx:cS A φ (.slice b off len mc ex sz) x) (hu:P.underlying t=some (.slice e)) (hs:(sizeOf e).run P w=.ok size w)
 {u v:Option Value} (hu':(u=none/\lo=0)∨∃ k,u=some (.int k (lo:Int))) (hv':(v=none/\hi=len)∨∃ k,v=some (.int k (hi:Int))) (h1:hi<=mc) (h2:lo<=hi) (h3:sz=size) :
 ∃ rv,(Instr.sliceAt t x u v none).run P w=.ok rv w/\cS A φ (.slice b (off+lo*size) (hi - lo) (mc - lo) ex sz) rv:=by
 subst h3
 obtain⟨L,ad,cap,k1,rfl,k2,k3,k4,k5⟩:=hx
 refine⟨_,jjx hu hs (some ad) len cap lo hi u v hu' hv' h2 oa,?_⟩
 refine⟨L,if cap=lo then ad else ad.add (lo*sz),cap - lo,k1,?_,oa,oa,fun h=>by have:=k4 h;omega,?_⟩
 .split<;>rfl
 .by_cases hc:cap=lo
  .exact .inr oa
  .rw [if_neg hc]
   rcases k5 with⟨rfl,k6⟩ | k6
   .refine .inl ⟨by rw[jcc];congr 1;omega,?_⟩
    have:cap*sz=lo*sz+(cap - lo)*sz:=by rw[←f2y];congr 1;omega
    omega
   .omega
theorem j36 {t:TypeId} {ti:TI} (k:TIok P t ti) (k1:ti1 ti=true) {off:Nat} {arr:Array Value} (ha:All2 (cS A φ) cs arr.toList) {xs:List SV}
 (h:jbp ti.size (jb9 off cs)=some xs) (h':jgs ti.agg xs=some v):∃ rv,(part t arr off).run P w=.ok rv w/\cV A φ v rv:=by
 rw[jcb] at h
 obtain⟨h1,rfl⟩:=(ja8 _).1 h
 simp only[List.length_drop] at h1
 have hal:=ha.len
 simp only[f16] at hal
 rcases jjs h' with⟨e,rfl⟩ | ⟨e,s,hs,rfl⟩
 .refine ⟨.agg (arr.extract off (off+ti.size)),by simp[part,k.run_agg,e,k.run_size],(arr.extract off (off+ti.size)).toList,by rw[Array.toArray_toList],?_⟩
  have:=(ha.drop off).take ti.size
  simpa[Array.toList_extract,List.extract_eq_take_drop] using this
 .have hsz:ti.size=1:=by
   simp only[ti1,e,f18,jiu] at k1;exact k1
  have:(cs.drop off)[0]?=some s:=by
   have:((cs.drop off).take ti.size)[0]?=some s:=by rw[hs];rfl
   rwa [f1y oa] at this
  rw[f1h,f1z] at this
  obtain⟨v,hv,hc⟩:=ha.get _ _ this
  rw[f1g] at hv
  exact⟨v,by simp[part,k.run_agg,e,hv],hc⟩
theorem j6r {k:IntKind} {m n:Int} (as:Array TypeId) (t:TypeId):(Builtin.max_ as t #[.int k m,.int k n]).run P w=.ok (.int k (oif (ile m n) n m)) w:=by
 have e:(Builtin.max_ as t #[.int k m,.int k n]).run P w=.ok (.int k (if n>m then n else m)) w:=by
  simp[Builtin.max_,Builtin.max2]
 rw[e,jat,jem]
 congr 2
 by_cases h:m<=n<;>by_cases h':n>m<;>simp[h,h']<;>omega
theorem j6s {k:IntKind} {m n:Int} (as:Array TypeId) (t:TypeId):(Builtin.min_ as t #[.int k m,.int k n]).run P w=.ok (.int k (oif (ile m n) m n)) w:=by
 have e:(Builtin.min_ as t #[.int k m,.int k n]).run P w=.ok (.int k (if n<m then n else m)) w:=by
  simp[Builtin.min_,Builtin.min2]
 rw[e,jat,jem]
 congr 2
 by_cases h:m<=n<;>by_cases h':n<m<;>simp[h,h']<;>omega
end
section
variable {P:Program} {T:Tr TI} {w:World} {A:Nat->Int} {φ:Phi}
theorem jh5 {isB:Bool} {b:SV} {x y:Value} (h:qpu isB a b=some e) (hx:cS A φ a x) (hy:cS A φ b y) :
 (isB=true/\∃ p q,x=.bool p/\y=.bool q/\e=(p == q))∨(isB=false/\∃ k m n,x=.int k m/\y=.int k n/\e=(m == n)):=by
 cases isB with
 | true =>
  obtain⟨p,rfl,h1⟩:=jh2 (show jqi a (fun x=>jqi b fun y=>some (oif x y (jis y)))=some e from h)
  obtain⟨q,rfl,h2⟩:=jh2 h1
  cases h2
  exact .inl ⟨rfl,p,q,hx,hy,by cases p<;>cases q<;>rfl⟩
 | false =>
  obtain⟨k,m,rfl,h1⟩:=jju (show qda a (fun k m=>qda b fun k' n=>oif (Nat.beq (ikn k) (ikn k')) (some (ieq m n)) none)=some e from h)
  obtain⟨k',n,rfl,h2⟩:=jju h1
  obtain⟨h3,h4⟩:=jae.1 h2
  obtain rfl:=jn7 h3
  cases h4
  exact .inr ⟨rfl,k,m,n,hx,hy,by rw[jdi,f10];simp⟩
theorem jc4 (h:jcu [] l r=some e):l=[]/\r=[]/\e=true:=by
 cases l with
 | nil=>cases r with
  | nil=>exact⟨rfl,rfl,Option.some.inj (show some true=some e from h).symm⟩
  | cons b r=>cases h
 | cons a l=>cases h
theorem jc5 {s:Bool} {g:List Bool} (h:jcu (s::g) l r=some e) :
 ∃ a l' b r' e1 e2,l=a::l'/\r=b::r'/\qpu s a b=some e1/\jcu g l' r'=some e2/\e=(e1&&e2):=by
 cases l with
 | nil=>cases h
 | cons a l=>cases r with
  | nil=>cases h
  | cons b r =>
   obtain⟨e1,h1,h2⟩:=jaa.1 (show ob (qpu s a b) (fun x=>ob (jcu g l r) fun e=>some (oif x e false))=some e from h)
   obtain⟨e2,h3,h4⟩:=jaa.1 h2
   cases h4
   exact⟨a,l,b,r,e1,e2,rfl,rfl,h1,h3,by cases e1<;>rfl⟩
theorem ji3:∀ {g:List Bool} {l r:List SV} {e:Bool},jcu g l r=some e->l.length=g.length/\r.length=g.length
 | [],l,r,e,h=>by grind[jc4]
 | s::g,l,r,e,h=>by
  obtain⟨a,l',b,r',e1,e2,rfl,rfl,_,h2,_⟩:=jc5 h
  obtain⟨h3,h4⟩:=ji3 h2
  grind
theorem jok:∀ {g g':List Bool} {l r:List SV} {e:Bool},jcu (g++g') l r=some e ->
 ∃ e1 e2,jcu g (l.take g.length) (r.take g.length)=some e1/\jcu g' (l.drop g.length) (r.drop g.length)=some e2/\e=(e1&&e2)
 | [],g',l,r,e,h=>⟨true,e,rfl,by grind,se⟩
 | s::g,g',l,r,e,h=>by
  obtain⟨a,l',b,r',e1,e2,rfl,rfl,h1,h2,rfl⟩:=jc5 h
  obtain⟨e3,e4,h3,h4,rfl⟩:=jok h2
  refine⟨e1&&e3,e4,?_,by grind,by grind⟩
  have:jcu (s::g) (a::l'.take g.length) (b::r'.take g.length)=some (oif e1 e3 false):=by
   show ob (qpu s a b) (fun x=>ob (jcu g (l'.take g.length) (r'.take g.length)) fun e=>some (oif x e false))=_
   rw[h1,h3];rfl
  simp only[f0i,List.take_succ_cons]
  rw[this];cases e1<;>rfl
def jge (P:Program) (t:TypeId) (xs:List Value) (x:Value):Prop :=
 match P.underlying t with
 | some (.struct _)=>x=.agg xs.toArray
 | some (.array _ _)=>x=.agg xs.toArray
 | _=>xs=[x]
theorem jh6 {d:Nat} {t:TypeId} {s:List Bool} (h:jqk P d t=some s) {i:TypeInfo} (hi:P.info? t=some i) (hs:i.size=s.length) {xs:List Value} {off:Nat} (hl:off+s.length<=xs.length) :
 ∃ x,(part t xs.toArray off).run P w=.ok x w/\jge P t ((xs.drop off).take s.length) x:=by
 cases d with
 | zero=>cases h
 | succ d =>
  unfold jqk at h
  split at h
  .rename_i hu
   cases h
   have hlt:off<xs.length:=by simp at hl;omega
   refine⟨xs[off],by simp[part,isAgg,run_underlying hu,hlt],?_⟩
   simp only[jge,hu]
   rw[f0w hlt];rfl
  .rename_i k hu
   cases h
   have hlt:off<xs.length:=by simp at hl;omega
   refine⟨xs[off],by simp[part,isAgg,run_underlying hu,hlt],?_⟩
   simp only[jge,hu]
   rw[f0w hlt];rfl
  .rename_i fs hu
   refine⟨.agg (xs.toArray.extract off (off+i.size)),by simp[part,isAgg,run_underlying hu,sizeOf,typeInfo,hi],?_⟩
   simp only[jge,hu]
   rw[hs]
   congr 1
   simp[List.extract_eq_take_drop]
  .rename_i n e hu
   refine⟨.agg (xs.toArray.extract off (off+i.size)),by simp[part,isAgg,run_underlying hu,sizeOf,typeInfo,hi],?_⟩
   simp only[jge,hu]
   rw[hs]
   congr 1
   simp[List.extract_eq_take_drop]
  grind
theorem j37:∀ (d:Nat) (t:TypeId) (sig:List Bool),jqk P d t=some sig->∀ (cs ds:List SV) (xs ys:List Value) (x y:Value) (e:Bool),All2 (cS A φ) cs xs->All2 (cS A φ) ds ys->jcu sig cs ds=some e ->
 jge P t xs x->jge P t ys y->(Op.equalIn d t x y).run P w=.ok e w:=by
 intro d
 induction d with
 | zero=>intro t sig h;cases h
 | succ d ih =>
  intro t sig h cs ds xs ys x y e hx hy he sx sy
  have fields:∀ (fs:List Field) (off:Nat) (sig:List Bool),jjt P (jqk P d) fs off=some sig->∀ (cs ds:List SV) (e:Bool),All2 (cS A φ) cs (xs.drop off)->All2 (cS A φ) ds (ys.drop off)->jcu sig cs ds=some e ->
   (Op.eqFields d xs.toArray ys.toArray fs).run P w=.ok e w:=by
   intro fs
   induction fs with
   | nil =>
    intro off sig h cs ds e _ _ he
    cases (show some []=some sig from h)
    obtain⟨_,_,rfl⟩:=jc4 he
    rfl
   | cons f fs ihf =>
    intro off sig h cs ds e hx hy he
    unfold jjt at h
    split at h
    .cases h
    rename_i hn
    split at h
    .cases h
    rename_i ho
    have ho':f.offset=off:=by simpa using ho
    split at h
    .rename_i s i hs hi
     split at h
     .rename_i hsz0
      obtain⟨hsz,hs0⟩:=hsz0
      split at h
      .rename_i l hl
       cases h
       obtain⟨e1,e2,h1,h2,rfl⟩:=jok he
       obtain⟨l1,l2⟩:=ji3 he
       have hxl:=hx.len
       have hyl:=hy.len
       simp only[f0d,List.length_drop] at l1 l2 hxl hyl
       obtain⟨a,pa,sa⟩:=jh6 (w:=w) hs hi hsz (xs:=xs) (off:=off) oa
       obtain⟨b,pb,sb⟩:=jh6 (w:=w) hs hi hsz (xs:=ys) (off:=off) oa
       have hi1:=ih f.type s hs _ _ _ _ a b e1 (hx.take s.length) (hy.take s.length) h1 sa sb
       have hi2:=ihf (off+s.length) l hl _ _ e2 (by simpa[List.drop_drop] using hx.drop s.length) (by simpa[List.drop_drop] using hy.drop s.length) h2
       simp only[Op.eqFields,hn,ne_eq,not_false_eq_true,if_true,Sem.run_bind,ho',pa,pb,Result.andThen_ok,hi1]
       cases e1
       .rfl
       .simpa using hi2
      .cases h
     .cases h
    .cases h
  unfold jqk at h
  split at h
  .rename_i hu
   cases h
   simp only[jge,hu] at sx sy
   subst sx sy
   obtain⟨a,l',b,r',e1,e2,rfl,rfl,h1,h2,rfl⟩:=jc5 he
   obtain⟨rfl,rfl,rfl⟩:=jc4 h2
   cases hx with | cons hx _=>cases hy with | cons hy _ =>
   rcases jh5 h1 hx hy with⟨_,p,q,rfl,rfl,rfl⟩ | ⟨h,_⟩
   .rw [run_equalIn_bool' (h:=hu)];simp
   .cases h
  .rename_i k hu
   cases h
   simp only[jge,hu] at sx sy
   subst sx sy
   obtain⟨a,l',b,r',e1,e2,rfl,rfl,h1,h2,rfl⟩:=jc5 he
   obtain⟨rfl,rfl,rfl⟩:=jc4 h2
   cases hx with | cons hx _=>cases hy with | cons hy _ =>
   rcases jh5 h1 hx hy with⟨h,_⟩ | ⟨_,k',m,n,rfl,rfl,rfl⟩
   .cases h
   .rw [run_equalIn_int (h:=hu)];simp
  .rename_i fs hu
   split at h
   .cases h
   rename_i hst
   simp only[jge,hu] at sx sy
   subst sx sy
   have hf:P.fieldsOf t=fs:=by simp[Program.fieldsOf,hu]
   rw[run_equalIn_struct (ht:=by rw[hf];exact hu) (hp:=by simpa using hst),hf]
   exact fields fs.toList 0 sig h cs ds e (by simpa using hx) (by simpa using hy) he
  .rename_i n el hu
   split at h
   .rename_i hc
    obtain⟨hs,hi⟩:=hc
    cases h
    obtain⟨i,hi,hsz⟩:=f0a.1 hi
    simp only[jge,hu] at sx sy
    subst sx sy
    have c1:P.cellsOf el=1:=by simp[Program.cellsOf,hi,hsz]
    have items:∀ (m off:Nat) (cs ds:List SV) (e:Bool),All2 (cS A φ) cs (xs.drop off)->All2 (cS A φ) ds (ys.drop off)->jcu (List.replicate m false) cs ds=some e ->
     (Op.eqItems d el 1 xs.toArray ys.toArray (List.range' off m)).run P w=.ok e w:=by
     intro m
     induction m with
     | zero =>
      intro off cs ds e _ _ he
      obtain⟨_,_,rfl⟩:=jc4 he
      rfl
     | succ m ihm =>
      intro off cs ds e hx hy he
      obtain⟨a,l',b,r',e1,e2,rfl,rfl,h1,h2,rfl⟩:=jc5 he
      have hxl:=hx.len
      have hyl:=hy.len
      simp only[f0i,List.length_drop] at hxl hyl
      obtain⟨a',pa,sa⟩:=jh6 (w:=w) hs hi hsz (xs:=xs) (off:=off) (by simp;omega)
      obtain⟨b',pb,sb⟩:=jh6 (w:=w) hs hi hsz (xs:=ys) (off:=off) (by simp;omega)
      have hi1:=ih el [false] hs [a] [b] _ _ a' b' e1 (hx.take 1) (hy.take 1) (by
       show ob (qpu false a b) (fun x=>ob (jcu [] [] []) (fun e=>some (oif x e false)))=some e1
       rw[h1]
       show some (oif e1 true false)=some e1
       cases e1<;>rfl) sa sb
      have hi2:=ihm (off+1) l' r' e2 (by simpa[List.drop_drop] using hx.drop 1) (by simpa[List.drop_drop] using hy.drop 1) h2
      rw[List.range'_succ]
      simp only[Op.eqItems,Sem.run_bind,f12,pa,pb,Result.andThen_ok,hi1]
      cases e1
      .rfl
      .simpa using hi2
    rw[run_equalIn_array w d xs.toArray ys.toArray hu hi,c1,List.range_eq_range']
    exact items n 0 cs ds e (by simpa using hx) (by simpa using hy) he
   .cases h
  grind
end
section
variable {P:Program} {T:Tr TI} {w:World} {A:Nat->Int} {φ:Phi} {π:List Nat} {loc:List (Option Nat)} {st fr:List AV} {ρ:Operand->Value}
theorem j6t (hT:Tys P T) {t:TypeId} {q:Bool×List Bool} (h:qvj T t=some q):∃ ti,TIok P t ti/\ti.agg=q.1/\ti.eq=some q.2:=by
 unfold qvj at h
 split at h
 .rename_i ti hti
  obtain⟨s,hs,rfl⟩:=f0a.1 h
  exact⟨ti,hT t ti hti,rfl,hs⟩
 grind
theorem jjy {op:BinOp} {n:Bool} (h:qpw op=some n):(op=.eql/\n=false)∨(op=.neq/\n=true):=by
 cases op<;>simp[qpw] at h<;>simp[h]
theorem jol (op:BinOp) (t:TypeId) (x y:Operand) (k k':IntKind) (m n:Int):(eqGuard op t x y (.int k m) (.int k' n)).run P w=.ok () w:=by
 cases op<;>rfl
theorem ju4 (op:BinOp) (t:TypeId) (x y:Operand) (m n:Bool):(eqGuard op t x y (.bool m) (.bool n)).run P w=.ok () w:=by
 cases op<;>rfl
theorem j6u {o:BO} {b:SV} (h:jel o a b=some v):(∀ x,cS A φ a x->∃ k m,x=.int k m)/\(∀ y,cS A φ b y->∃ k m,y=.int k m):=by
 cases a with
 | int k m =>
  refine⟨fun x hx=>⟨k,m,hx⟩,?_⟩
  cases b with
  | int k' n=>exact fun y hy=>⟨k',n,hy⟩
  | sym e=>exact fun y hy=>⟨_,_,hy⟩
  | _=>cases h
 | sym e =>
  refine⟨fun x hx=>⟨_,_,hx⟩,?_⟩
  obtain⟨e',h1,h2⟩:=j0b (show vSx b (fun e'=>j3y o e e')=some v from h)
  grind
 | _=>cases h
theorem jjz {S:List Operand} (hE:jmo A φ π loc st fr S ρ):∀ (os:List Operand) (l:List Od) (vs:List AV),(∀ x,x∈os->x∈S)->cOs π loc os=some l->evs st fr l=some vs->All2 (cV A φ) vs (os.map ρ)
 | [],l,vs,hm,h,h'=>by
  cases show some []=some l from h
  cases show some []=some vs from h'
  exact .nil
 | o::os,l,vs,hm,h,h'=>by
  simp only[cOs] at h
  split at h
  .rename_i y l' hy hl
   cases h
   obtain⟨v,hv,h2⟩:=jaa.1 (show ob (ev st fr y) (fun v=>ob (evs st fr l') fun r=>some (v::r))=some vs from h')
   obtain⟨r,hr,h3⟩:=jaa.1 h2
   cases h3
   exact .cons (hE _ (hm o se) _ _ hy hv) (jjz hE os l' r (fun x hx=>hm x (by grind)) hl hr)
  grind
theorem jq4:∀ (vs:List AV) (l:List (Nat×Nat)) (xs:List Value),qhe vs=some l->All2 (cV A φ) vs xs->All2 (fun p x=>jqj φ p.1 p.2 x) l xs
 | [],l,xs,h,hx=>by
  cases hx
  cases show some []=some l from h
  exact .nil
 | v::vs,l,xs,h,hx=>by
  cases hx with
  | cons hv hr =>
   obtain⟨b,o,rfl,h1⟩:=jjv (show jux v (fun b o=>ob (qhe vs) fun r=>some ((b,o)::r))=some l from h)
   obtain⟨r,h2,h3⟩:=jaa.1 h1
   cases h3
   exact .cons hv (jq4 vs r _ h2 hr)
theorem ju5 {g:Bool} {x:AV} {v:Value} {β:Type} {f:List SV->Option β} {r:β} (k:cV A φ x v) (h:qdb g x f=some r) :
 ∃ cs xs,f cs=some r/\All2 (cS A φ) cs xs/\if g=true then v=.agg xs.toArray else xs=[v]:=by
 cases x with
 | s x =>
  have h':oif g none (f [x])=some r:=h
  rw[jat] at h'
  split at h'
  .grind
  .exact ⟨[x],[v],h',.cons k .nil,by grind⟩
 | agg l =>
  obtain⟨h1,h2⟩:=jae.1 (show oif g (f l) none=some r from h)
  obtain⟨xs,rfl,hx⟩:=k
  grind
 | _=>cases h
theorem jsb {os:List Operand} {x:Od} (h:cOs π loc os=some [x]):∃ o,os=[o]/\cO π loc o=some x:=by
 cases os with
 | nil=>cases h
 | cons o os =>
  simp only[cOs] at h
  split at h
  .rename_i y l hy hl
   cases os with
   | nil=>grind
   | cons o' os=>simp only[cOs] at hl;grind
  grind
theorem jsc {os:List Operand} {x y:Od} (h:cOs π loc os=some [x,y]):∃ o o',os=[o,o']/\cO π loc o=some x/\cO π loc o'=some y:=by
 cases os with
 | nil=>cases h
 | cons o os =>
  simp only[cOs] at h
  grind[jsb]
theorem j6v {c:Array Value} (h1:φ.k b=some c) (h2:∀ (j:Nat) (x:SV),cs[j]?=some x->∃ u,c[o+j]?=some u/\cD A φ.k x u) (n:Nat):cS A φ (.cp (jb9 n cs)) (.pointer (some ⟨b,o+n,none⟩)) :=
 ⟨b,o+n,c,h1,rfl,fun j x hx=>by grind[jcb,f1h,f1u]⟩
theorem jom (hT:Tys P T) {o:Oper} (hE:jmo A φ π loc st fr o.op.operands.toList ρ) {po:PO} (hc:cOp T π loc o.op=some (.p po)) (hv:pop st fr po=some v) :
 ∃ rv,(execOp ρ o).run P w=.ok (.value rv) w/\cV A φ v rv:=by
 obtain⟨dst,op,type,pos,after,guard⟩:=o
 cases op with
 | move x =>
  obtain⟨y,hy,e⟩:=f0a.1 hc
  cases e
  exact⟨_,rfl,hE _ (by simp[Op.operands]) _ _ hy hv⟩
 | assign x =>
  obtain⟨y,hy,e⟩:=f0a.1 hc
  cases e
  exact⟨_,rfl,hE _ (by simp[Op.operands]) _ _ hy hv⟩
 | pick c a b =>
  simp only[cOp] at hc
  split at hc
  .rename_i c' a' b' h1 h2 h3
   cases hc
   obtain⟨u,hu,hv1⟩:=jaa.1 (show ob (ev st fr c') (fun v=>jgt v (fun t=>ev st fr (oif t a' b')))=some v from hv)
   obtain⟨t,rfl,hv2⟩:=jda hv1
   have hρ:ρ c=.bool t:=hE _ (by simp[Op.operands]) _ _ h1 hu
   rw[jat] at hv2
   cases t
   .exact ⟨ρ b,by simp[execOp,hρ,asBool],hE _ (by simp[Op.operands]) _ _ h3 hv2⟩
   .exact ⟨ρ a,by simp[execOp,hρ,asBool],hE _ (by simp[Op.operands]) _ _ h2 hv2⟩
  .cases hc
 | build t ps =>
  simp only[cOp] at hc
  split at hc
  .rename_i ti hti
   have kt:=hT t ti hti
   obtain⟨d,hd,hk⟩:=kt.und
   obtain⟨z,hz,hza,_⟩:=kt.run_zero (w:=w)
   split at hc
   .rename_i fs hfs
    rw[hfs] at hk
    obtain⟨fields,rfl,rfl,hfi⟩:=hk
    obtain⟨l,hl,e⟩:=f0a.1 hc
    cases e
    obtain⟨cs,hcs,e⟩:=jaa.1 (show ob (fill st fr l ti.zero) (fun cs=>some (.agg cs))=some v from hv)
    cases e
    let place:Nat->Option (Nat×Nat):=fun i=>(fields.map (fun f=>(f.offset,P.cellsOf f.type)))[i]?
    have hm:(fields.mapM (fun(f:Field)=>do pure (f.offset,←sizeOf f.type))).run P w=.ok (fields.map (fun f=>(f.offset,P.cellsOf f.type))) w :=
     qdh fields (fun f hf=>by obtain⟨i,hi⟩:=hfi f hf;simp[sizeOf,typeInfo,hi,Program.cellsOf])
    have hl':∀ (ps:List (Nat×Operand)) l,jhh π loc (fun i=>match (fields.toList.map (fun f=>(f.offset,f.type)))[i]? with | some (off,e)=>(jjo T e).map fun z=>(off,z.size) | none=>none) ps=some l->jhh π loc place ps=some l:=by
     intro ps
     induction ps with
     | nil=>intro l h;exact h
     | cons p ps ih =>
      obtain⟨i,o⟩:=p
      intro l h
      simp only[jhh] at h ⊢
      split at h
      .rename_i off n x l1 hp ho hl1
       have:place i=some (off,n):=by
        simp only[f09] at hp
        simp only[place,Array.getElem?_map]
        rw[←f1g]
        cases hf:fields.toList[i]? with
        | none=>rw[hf] at hp;cases hp
        | some f =>
         rw[hf] at hp
         simp only[f26] at hp ⊢
         obtain⟨ti',hti',e⟩:=f0a.1 hp
         cases e
         obtain⟨i',z',d',q1,q2,q3,_⟩:=(hT _ _ hti').ex
         simp[Program.cellsOf,q1,q3]
       rw[this,ho,ih _ hl1]
       exact h
      .cases h
    obtain⟨arr',h1,h2⟩:=jh4 hE (place:=place) ps.toList l ti.zero cs z.cells (fun p hp=>by simp[Op.operands];exact⟨p.1,by simpa using hp⟩) (hl' _ _ hl) hcs (hza A φ)
    refine⟨.agg arr',?_,arr'.toList,se,h2⟩
    have hps:(ps.map (fun x=>(x.1,ρ x.2))).toList=ps.toList.map (fun p=>(p.1,ρ p.2)):=se
    simp only[execOp,Instr.build,Sem.run_bind,hz,Result.andThen_ok,run_underlying hd,hm,hps]
    have h1':Instr.fill (fun x=>(fields.map (fun f=>(f.offset,P.cellsOf f.type)))[x]?) z.cells (ps.toList.map (fun p=>(p.1,ρ p.2)))=some arr':=h1
    rw[h1']
    rfl
   .rename_i n e he
    rw[he] at hk
    cases hk
    split at hc
    .rename_i z' hz'
     obtain⟨l,hl,e⟩:=f0a.1 hc
     cases e
     obtain⟨cs,hcs,e⟩:=jaa.1 (show ob (fill st fr l ti.zero) (fun cs=>some (.agg cs))=some v from hv)
     cases e
     obtain⟨arr',h1,h2⟩:=jh4 hE ps.toList l ti.zero cs z.cells (fun p hp=>by simp[Op.operands];exact⟨p.1,by simpa using hp⟩) hl hcs (hza A φ)
     refine⟨.agg arr',?_,arr'.toList,se,h2⟩
     have hps:(ps.map (fun x=>(x.1,ρ x.2))).toList=ps.toList.map (fun p=>(p.1,ρ p.2)):=se
     simp only[execOp,Instr.build,Sem.run_bind,hz,Result.andThen_ok,run_underlying hd,(hT _ _ hz').run_size,hps,h1]
     rfl
    .cases hc
   .cases hc
  .cases hc
 | binOp op t x y yt =>
  simp only[cOp] at hc
  split at hc
  .rename_i x' y' hx hy
   cases hi:jz8 T t with
   | true =>
    rw[hi] at hc
    obtain⟨o',ho,e⟩:=f0a.1 hc
    cases e
    obtain rfl:=j6q ho
    obtain⟨a,ha,hv1⟩:=jaa.1 (show ob (ev st fr x') (fun a=>ob (ev st fr y') (fun b=>svc none a (fun a=>svc none b (fun b=>jel o' a b))))=some v from hv)
    obtain⟨b,hb,hv2⟩:=jaa.1 hv1
    obtain⟨a,rfl,hv3⟩:=jcn hv2
    obtain⟨b,rfl,hv4⟩:=jcn hv3
    have h1:=hE _ (by simp[Op.operands]) _ _ hx ha
    have h2:=hE _ (by simp[Op.operands]) _ _ hy hb
    obtain⟨rv,h3,h4⟩:=jx7 (w:=w) (P:=P) hv4 h1 h2 t
    obtain⟨i1,i2⟩:=j6u (A:=A) (φ:=φ) hv4
    obtain⟨k,m,e1⟩:=i1 _ h1
    obtain⟨k',n,e2⟩:=i2 _ h2
    refine⟨rv,?_,h4⟩
    rw[e1,e2] at h3
    simp only[execOp,e1,e2,Sem.run_bind,jol,Result.andThen_ok,h3]
    rfl
   | false =>
    rw[hi] at hc
    simp only[cond_false] at hc
    cases hsl:(jbw T t).isSome with
    | true =>
     rw[hsl] at hc
     simp only[cond_true] at hc
     obtain⟨n,hn,e⟩:=f0a.1 hc
     cases e
     cases (show(none:Option AV)=some v from hv)
    | false =>
    rw[hsl] at hc
    simp only[cond_false] at hc
    split at hc
    .rename_i n q hn hq
     cases hc
     obtain⟨ti,kt,hag,heq⟩:=j6t hT hq
     obtain⟨hsig,hgd⟩:=kt.eq _ heq
     obtain⟨i,z,d,_,_,_,_,_,hu,hagB,_⟩:=kt.ex
     obtain⟨a,ha,hv5⟩:=jaa.1 (show ob (ev st fr x') (fun a=>ob (ev st fr y') (fun b=>qdb q.1 a (fun as=>qdb q.1 b (fun bs=>ob (jcu q.2 as bs) (fun e=>some (.s (.bool (oif n (jis e) e))))))))=some v from hv)
     obtain⟨b,hb,hv6⟩:=jaa.1 hv5
     obtain⟨cs,xs,hv6,h1,h2⟩:=ju5 (hE _ (by simp[Op.operands]) _ _ hx ha) hv6
     obtain⟨ds,ys,hv6,h3,h4⟩:=ju5 (hE _ (by simp[Op.operands]) _ _ hy hb) hv6
     obtain⟨e,he,hv7⟩:=jaa.1 hv6
     cases hv7
     have shape:∀ zs u,(if q.1=true then u=.agg zs.toArray else zs=[u])->jge P t zs u:=by
      intro zs u h
      rw[←hag,hagB] at h
      unfold jge
      rw[hu]
      cases d<;>simp[qvm] at h ⊢<;>try exact h
      all_goals (rw[jqk,hu] at hsig;cases hsig)
     have hr:=j37 (w:=w) 10000 t q.2 hsig cs ds xs ys _ _ e h1 h3 he (shape _ _ h2) (shape _ _ h4)
     have hg:∀ op,(eqGuard op t x y (ρ x) (ρ y)).run P w=.ok () w:=by
      intro op
      cases hq1:q.1 with
      | true =>
       rw[hq1,if_pos rfl] at h2 h4
       rw[h2,h4]
       exact run_eqGuard_agg w op t x y _ _ hgd
      | false =>
       rw[hq1] at h2 h4
       simp only[f1c,if_false] at h2 h4
       subst h2 h4
       obtain⟨a',l',b',r',e1,e2,rfl,rfl,g1,g2,rfl⟩:=jc5 (s:=(q.2.headD true)) (g:=q.2.tail) (by
        cases hq2:q.2 with
        | nil=>rw[hq2] at he;obtain⟨rfl,_,_⟩:=jc4 he;cases h1
        | cons s g=>rw[hq2] at he;exact he)
       cases h1 with | cons h1 _=>cases h3 with | cons h3 _ =>
       rcases jh5 g1 h1 h3 with⟨_,p,q,e1,e2,_⟩ | ⟨_,k,m,n,e1,e2,_⟩
       .rw [e1,e2];exact ju4 op t x y p q
       .rw [e1,e2];exact jol op t x y k k m n
     have hbin:(Go.binOp (if n then .neq else .eql) t (ρ x) (ρ y)).run P w=.ok (.bool (oif n (jis e) e)) w:=by
      have gen:∀ u v,ρ x=u->ρ y=v->((∃ us vs,u=.agg us/\v=.agg vs)∨(∃ p q,u=.bool p/\v=.bool q)∨∃ k m n,u=.int k m/\v=.int k n/\e=(m == n))->(Go.binOp (if n then .neq else .eql) t u v).run P w=.ok (.bool (oif n (jis e) e)) w:=by
       intro u v hu' hv' h
       rw[hu',hv'] at hr
       rcases h with⟨us,vs,rfl,rfl⟩ | ⟨p,q,rfl,rfl⟩ | ⟨k,m,n',rfl,rfl,rfl⟩<;>cases n<;>simp[Go.binOp,Op.equal,Op.maxDepth,Op.intCmp,hr,oif,jhk,bne]
      refine gen _ _ rfl rfl ?_
      cases hq1:q.1 with
      | true =>
       rw[hq1,if_pos rfl] at h2 h4
       exact .inl ⟨_,_,h2,h4⟩
      | false =>
       rw[hq1] at h2 h4
       simp only[f1c,if_false] at h2 h4
       subst h2 h4
       cases hq2:q.2 with
       | nil=>rw[hq2] at he;obtain⟨rfl,_,_⟩:=jc4 he;cases h1
       | cons s g =>
        rw[hq2] at he
        obtain⟨a',l',b',r',e1',e2',rfl,rfl,g1,g2,rfl⟩:=jc5 he
        have g2':jcu [] l' r'=some e2':=by
         obtain⟨l1,_⟩:=ji3 he
         have hg:g=[]:=by
          cases h1 with | cons _ h1=>cases h1;simpa using l1.symm
         rw[←hg];exact g2
        cases h1 with | cons h1 _=>cases h3 with | cons h3 _ =>
        rcases jh5 g1 h1 h3 with⟨_,p,q,e1,e2,_⟩ | ⟨hs,k,m,n,e1,e2,e3⟩
        .exact .inr (.inl ⟨p,q,e1,e2⟩)
        .obtain ⟨_,_,rfl⟩:=jc4 g2'
         exact .inr (.inr ⟨k,m,n,e1,e2,by rw[e3];simp⟩)
     rcases jjy hn with⟨rfl,rfl⟩ | ⟨rfl,rfl⟩
     .refine ⟨_,?_,rfl⟩
      have hb':=hbin
      simp only[f1c,if_false] at hb'
      simp only[execOp,Sem.run_bind,hg,Result.andThen_ok,hb']
      rfl
     .refine ⟨_,?_,rfl⟩
      have hb':=hbin
      simp only[if_true] at hb'
      simp only[execOp,Sem.run_bind,hg,Result.andThen_ok,hb']
      rfl
    .cases hpt:jz7 T t with
     | true=>rw[hpt] at hc;cases hc
     | false =>
      rw[hpt] at hc
      cases hst:jc2 T t with
      | true=>rw[hst] at hc;cases hc
      | false =>
       rw[hst] at hc
       rename_i y' _ _ _ _ _
       cases hif:(jn4 T t&&jn3 y') with
       | true=>simp only[hif] at hc;cases hc
       | false=>simp only[hif] at hc;cases hc
    .split at hc
     .cases hst:jc2 T t with
      | true=>rw[hst] at hc;cases hc
      | false=>rw[hst] at hc;cases hc
     .cases hc
  .cases hc
 | unOp op t x =>
  cases op with
  | not =>
   obtain⟨y,hy,e⟩:=f0a.1 hc
   cases e
   obtain⟨u,hu,hv1⟩:=jaa.1 (show ob (ev st fr y) (fun v=>jgt v (fun b=>some (.s (.bool (jis b)))))=some v from hv)
   obtain⟨b,rfl,hv2⟩:=jda hv1
   cases hv2
   have hρ:ρ x=.bool b:=hE _ (by simp[Op.operands]) _ _ hy hu
   exact⟨.bool (!b),by simp[execOp,hρ,Op.unary],by rw[jhk];rfl⟩
  | neg =>
   obtain⟨y,hy,e⟩:=f0a.1 hc
   cases e
   obtain⟨u,hu,hv3⟩:=jaa.1 (show ob (ev st fr y) (fun v=>jk5 v (fun k n=>j6a k (-n)))=some v from hv)
   obtain⟨k,n,rfl,hv4⟩:=jdy hv3
   obtain⟨rfl,e⟩:=joe hv4
   have hρ:ρ x=.int k n:=hE _ (by simp[Op.operands]) _ _ hy hu
   exact⟨.int k (-n),by simp[execOp,hρ,Op.unary,Op.intArith,e],rfl⟩
  | _=>cases hc
 | makeFunc fn fst caps =>
  cases fn with
  | func f =>
   simp only[cOp] at hc
   cases hb:Nat.beq fst.size 0 with
   | false=>rw[hb] at hc;cases hc
   | true =>
    rw[hb] at hc
    obtain⟨l,hl,e⟩:=f0a.1 hc
    cases e
    rw[jiu] at hb
    have hf:fst=#[]:=by simpa using hb
    subst hf
    obtain⟨vs,hvs,hv1⟩:=jaa.1 (show ob (evs st fr l) (fun vs=>ob (qhe vs) (fun ps=>some (.s (.func f ps))))=some v from hv)
    obtain⟨ps,hps,hv2⟩:=jaa.1 hv1
    cases hv2
    refine⟨.func (.func f) #[] (caps.map ρ),by simp[execOp,Instr.makeFunc],(caps.toList.map ρ),by rw[←f2e,Array.toArray_toList],jq4 _ _ _ hps (jjz hE _ _ _ (fun x hx=>by simpa[Op.operands] using hx) hl hvs)⟩
  | _=>cases hc
 | convert s d x =>
  simp only[cOp] at hc
  split at hc
  .rename_i ts ti y hs hd hy
   split at hc
   .rename_i k hk
    cases hc
    obtain⟨d1,hd1,_⟩:=(hT _ _ hs).und
    obtain⟨d2,hd2,hk2⟩:=(hT _ _ hd).und
    rw[hk] at hk2
    cases hk2
    obtain⟨u,hu,hv1⟩:=jaa.1 (show ob (ev st fr y) (fun v=>jk5 v (fun _ n=>j6b k n))=some v from hv)
    obtain⟨k',n,rfl,hv2⟩:=jdy hv1
    have hρ:ρ x=.int k' n:=hE _ (by simp[Op.operands]) _ _ hy hu
    have hr:(execOp ρ ⟨dst,.convert s d x,type,pos,after,guard⟩).run P w=.ok (.value (.int k (k.wrap n))) w:=by
     simp[execOp,hρ,Go.convert,run_underlying hd1,run_underlying hd2,Conv.intToInt]
    refine⟨_,hr,?_⟩
    unfold j6b at hv2
    rw[jat] at hv2
    split at hv2
    .rename_i h1;cases hv2;rw[jjr h1];rfl
    .cases k<;>first | (cases hv2;done) | skip
     cases n with
     | ofNat m =>
      cases hv2
      show Value.int _ _=_
      congr 1
     | negSucc m=>cases hv2
   .cases hb:jed T s with
    | true=>rw[hb] at hc;cases hc
    | false=>rw[hb] at hc;cases hc
   .cases hc
  .cases hc
 | nilCheck x =>
  obtain⟨y,hy,e⟩:=f0a.1 hc
  cases e
  obtain⟨u,hu,hv1⟩:=jaa.1 (show ob (ev st fr y) (fun v=>jeh v (fun b o=>some (.s (.ptr b o))) (fun cs=>some (.s (.cp cs))))=some v from hv)
  rcases jbz hv1 with⟨b,o,rfl,hv2⟩ | ⟨cs,rfl,hv2⟩
  .cases hv2
   obtain⟨L,hL,hρ⟩:=(show jqj φ b o (ρ x) from hE _ (by simp[Op.operands]) _ _ hy hu)
   exact⟨ρ x,by simp[execOp,hρ],⟨L,hL,hρ⟩⟩
  .cases hv2
   obtain⟨b,o,c,h1,hρ,h2⟩:=(show cS A φ (.cp cs) (ρ x) from hE _ (by simp[Op.operands]) _ _ hy hu)
   exact⟨ρ x,by simp[execOp,hρ],⟨b,o,c,h1,hρ,h2⟩⟩
 | slice t x lo hi mx =>
  cases mx with
  | some m =>
   cases hi with
   | none=>cases hc
   | some hi =>
   simp only[cOp] at hc
   split at hc
   .rename_i z x' lo' hi' mx' h1 h2 h3 h4 h5
    cases hc
    cases (show(none:Option AV)=some v from hv)
   .cases hc
  | none =>
   simp only[cOp] at hc
   split at hc
   .rename_i z x' lo' hi' h1 h2 h3 h4
    cases hc
    obtain⟨k1,k2,k3⟩:=jb2 hT h1
    obtain⟨u,hu,hv1⟩:=jaa.1 (show j6c st fr z.2.size x' lo' hi'=some v from hv)
    have hx:=hE _ (by simp[Op.operands]) _ _ h2 hu
    have conv:∀ {o:Option Operand} {e n:Nat},((o=none/\n=e)∨∃ q k,o=some q/\ρ q=.int k (n:Int))->(o.map ρ=none/\n=e)∨∃ k,o.map ρ=some (.int k (n:Int)):=by
     rintro o e n (⟨rfl,rfl⟩ | ⟨q,k,rfl,h⟩)
     .exact .inl ⟨rfl,rfl⟩
     .exact .inr ⟨k,by simp[h]⟩
    rcases jbb hv1 with⟨rfl,hv2⟩ | ⟨b,off,len,mc,ex,sz,rfl,hv2⟩ | ⟨rows,rfl,hv2⟩ | ⟨rfl,hv2⟩
    rotate_left 2
    .obtain ⟨hi1,hh,hv3⟩:=jaa.1 hv2
     obtain⟨lo1,hl,hv4⟩:=jaa.1 hv3
     obtain⟨h5,hv5⟩:=jae.1 hv4
     obtain⟨h6,hv6⟩:=jae.1 hv5
     obtain⟨h7,hv7⟩:=jae.1 hv6
     obtain⟨r,hr,hv8⟩:=jaa.1 hv7
     cases hv8
     rw[jr7] at h5 h6
     rw[jba] at hh h5
     obtain⟨ad,cap,hρ,hc,hcase⟩:=jgv (show cD A φ.k (.lst rows) (ρ x) from hx)
     have hb:=conv (jdr hE (fun o e=>by simp[Op.operands,e]) h4 hh)
     have hrun:=jjx (w:=w) (lo:=lo1) (hi:=hi1) k1 k2.run_size (some ad) rows.length cap (lo.map ρ) (hi.map ρ) (conv (jdr hE (fun o e=>by simp[Op.operands,e]) h3 hl)) hb h6 oa
     rw[jcb] at hr
     obtain⟨h8,rfl⟩:=(ja8 _).1 hr
     refine⟨_,by simp only[execOp,hρ,Sem.run_bind,Option.map_none,hrun,Result.andThen_ok];rfl,?_⟩
     show cD A φ.k (.lst ((rows.drop lo1).take (hi1 - lo1))) (.slice (if cap=lo1 then some ad else some (ad.add (lo1*z.2.size))) (hi1 - lo1) (cap - lo1))
     rcases hcase with rfl | ⟨b,o,sz,cs,e1,rfl,e3,e4⟩
     .have e1:lo1=0:=by simp at h5;omega
      have e2:hi1=0:=by simpa using h5
      subst e1 e2
      simp only[f2a]
      split<;>exact .lst0 _ _
     .by_cases e5:cap=lo1
      .have:hi1 - lo1=0:=oa
       rw[if_pos e5,this]
       simp only[List.take_zero]
       exact .lst0 _ _
      .rw [if_neg e5]
       by_cases e6:rows=[]
       .subst e6
        have:hi1 - lo1=0:=by simp at h5;omega
        rw[this]
        simp only[List.take_zero]
        exact .lst0 _ _
       .have hsz:sz=z.2.size:=by
         cases rows with
         | nil=>exact absurd rfl e6
         | cons a t =>
          have h9:Nat.beq (jb6 a) z.2.size=true:=h7
          rw[jiu,jba] at h9
          rw[←h9]
          exact(e3 0 a rfl).symm
        rw[jcc,←hsz]
        exact qdg e1 hc e3 e4 oa
    .obtain ⟨hi1,hh,hv3⟩:=jaa.1 hv2
     obtain⟨lo1,hl,hv4⟩:=jaa.1 hv3
     obtain⟨h0,hv5⟩:=jae.1 hv4
     cases hv5
     rw[jiu] at h0
     have e1:hi1=0:=by have:hi1+lo1=0:=h0;omega
     have e2:lo1=0:=by have:hi1+lo1=0:=h0;omega
     subst e1 e2
     obtain⟨ad,hρ⟩:=(show cS A φ .emp (ρ x) from hx)
     have hr:=jjx (w:=w) (lo:=0) (hi:=0) k1 k2.run_size (some ad) 0 0 (lo.map ρ) (hi.map ρ) (conv (jdr hE (fun o e=>by simp[Op.operands,e]) h3 hl)) (conv (jdr hE (fun o e=>by simp[Op.operands,e]) h4 hh)) (f0h _) (f0h _)
     refine⟨.slice (some ad) 0 0,?_,ad,rfl⟩
     simp only[execOp,hρ,Sem.run_bind,Option.map_none,hr,Result.andThen_ok]
     rfl
    .obtain ⟨hi1,hh,hv3⟩:=jaa.1 hv2
     obtain⟨lo1,hl,hv4⟩:=jaa.1 hv3
     obtain⟨h0,hv5⟩:=jae.1 hv4
     cases hv5
     rw[jiu] at h0
     have e1:hi1=0:=by have:hi1+lo1=0:=h0;omega
     have e2:lo1=0:=by have:hi1+lo1=0:=h0;omega
     subst e1 e2
     have hρ:ρ x=.slice none 0 0:=hx
     have hr:=jjx (w:=w) (lo:=0) (hi:=0) k1 k2.run_size none 0 0 (lo.map ρ) (hi.map ρ) (conv (jdr hE (fun o e=>by simp[Op.operands,e]) h3 hl)) (conv (jdr hE (fun o e=>by simp[Op.operands,e]) h4 hh)) (f0h _) (f0h _)
     refine⟨.slice none 0 0,?_,rfl⟩
     simp only[execOp,hρ,Sem.run_bind,Option.map_none,hr,Result.andThen_ok]
     rfl
    .obtain ⟨hi1,hh,hv6⟩:=jaa.1 hv2
     obtain⟨lo1,hl,hv7⟩:=jaa.1 hv6
     obtain⟨h5,hv8⟩:=jae.1 hv7
     obtain⟨h6,hv9⟩:=jae.1 hv8
     obtain⟨h7,hv10⟩:=jae.1 hv9
     cases hv10
     obtain⟨rv,hr,hcs⟩:=jx8 (A:=A) (φ:=φ) (w:=w) (show cS A φ (.slice b off len mc ex sz) (ρ x) from hx) k1 k2.run_size (conv (jdr hE (fun o e=>by simp[Op.operands,e]) h3 hl)) (conv (jdr hE (fun o e=>by simp[Op.operands,e]) h4 hh)) (f0l h5) (f0l h6) (f0k h7)
     refine⟨rv,?_,hcs⟩
     simp only[execOp,Sem.run_bind,Option.map_none,hr,Result.andThen_ok]
     rfl
   .obtain ⟨_,_,e⟩:=f0a.1 hc;cases e
   .cases hc
 | fieldAddr t x f =>
  simp only[cOp] at hc
  split at hc
  .rename_i p x' h1 h2
   cases hc
   obtain⟨fields,fd,k1,k2,k3,k4,k5⟩:=jr9 hT h1
   obtain⟨u,hu,hv1⟩:=jaa.1 (show ob (ev st fr x') (fun v=>jeh v (fun b o=>some (.s (.ptr b (Nat.add o p.1)))) (fun cs=>some (.s (.cp (jb9 p.1 cs)))))=some v from hv)
   rcases jbz hv1 with⟨b,o,rfl,hv2⟩ | ⟨cs,rfl,hv2⟩
   rotate_left
   .cases hv2
    obtain⟨b,o,c,h1',hρ,h2'⟩:=(show cS A φ (.cp cs) (ρ x) from hE _ (by simp[Op.operands]) _ _ h2 hu)
    refine⟨.pointer (some ⟨b,o+p.1,none⟩),?_,j6v h1' h2' p.1⟩
    simp only[execOp,Instr.fieldAt,hρ,Sem.run_bind,run_underlying k1,Result.andThen_ok,k2,Instr.sureAddr,Sem.run_pure,fieldPlace,k4.run_size,k5,if_false,jcc,k3]
   cases hv2
   obtain⟨L,hL,hρ⟩:=(show jqj φ b o (ρ x) from hE _ (by simp[Op.operands]) _ _ h2 hu)
   refine⟨.pointer (some ⟨L.b,L.o+(o+p.1),none⟩),?_,L,hL,rfl⟩
   simp only[execOp,Instr.fieldAt,hρ,Sem.run_bind,run_underlying k1,Result.andThen_ok,k2,Instr.sureAddr,Sem.run_pure,fieldPlace,k4.run_size,k5,if_false,jcc,k3,f1u]
  .cases hc
 | field t x f =>
  simp only[cOp] at hc
  split at hc
  .rename_i p x' h1 h2
   cases hb:ti1 p.2 with
   | false=>rw[hb] at hc;cases hc
   | true =>
    rw[hb] at hc
    cases hc
    cases (show(none:Option AV)=some v from hv)
  .cases hc
 | indexAddr t x i =>
  simp only[cOp] at hc
  split at hc
  .rename_i z x' i' h1 h3 h4
   cases hc
   obtain⟨k1,k2,k3⟩:=jb2 hT h1
   obtain⟨u,hu,hv1⟩:=jaa.1 (show qqa st fr z.2.size x' i'=some v from hv)
   obtain⟨u2,hu2,hv2⟩:=jaa.1 hv1
   rcases jbb hv2 with⟨_,hv3⟩ | ⟨b,off,len,mc,ex,sz,rfl,hv3⟩ | ⟨rows,rfl,hv3⟩ | ⟨_,hv3⟩
   .cases hv3
   rotate_left
   .obtain ⟨k,m,rfl,hm,hv4⟩:=jgd hv3
    obtain⟨row,hrow,hv5⟩:=jaa.1 hv4
    obtain⟨hsz,hv6⟩:=jae.1 hv5
    cases hv6
    rw[jba] at hm
    rw[jiu,jba] at hsz
    rw[jc3] at hrow
    have hi:ρ i=.int k (m:Int):=hE _ (by simp[Op.operands]) _ _ h4 hu2
    obtain⟨ad,cap,hρ,hc,hcase⟩:=jgv (show cD A φ.k (.lst rows) (ρ x) from hE _ (by simp[Op.operands]) _ _ h3 hu)
    rcases hcase with rfl | ⟨b,o,sz,cs,e1,rfl,e3,e4⟩
    .simp at hm
    have e5:sz=z.2.size:=by rw[←e3 m row hrow,hsz]
    refine⟨.pointer (some ⟨b,o+m*z.2.size,none⟩),?_,b,o+m*z.2.size,cs,e1,rfl,fun j y hy=>by rw[←e5];exact e4 m j row y hrow hy⟩
    have hlt:(0:Int)<=(m:Int)/\(m:Int)<(rows.length:Int):=oa
    simp only[execOp,Instr.indexAt,hρ,hi,asIntOf,Sem.run_bind,Sem.run_pure,run_underlying k1,Result.andThen_ok]
    rw[if_pos hlt]
    simp only[Sem.run_bind,k2.run_size,Result.andThen_ok,Sem.run_pure,f1k,jcc]
   .cases hv3
   obtain⟨k,m,rfl,hm,hv4⟩:=jgd hv3
   cases hv4
   have hi:ρ i=.int k (m:Int):=hE _ (by simp[Op.operands]) _ _ h4 hu2
   obtain⟨L,ad,cap,q1,hρ,q2,q3,q4,q5⟩:=(show cS A φ (.slice b off len mc ex sz) (ρ x) from hE _ (by simp[Op.operands]) _ _ h3 hu)
   have had:ad=⟨L.b,L.o+off,none⟩:=by
    rcases q5 with⟨h,_⟩ | h
    .exact h
    .omega
   refine⟨.pointer (some ⟨L.b,L.o+(off+m*z.2.size),none⟩),?_,L,q1,rfl⟩
   have hlt:(0:Int)<=(m:Int)/\(m:Int)<(len:Int):=oa
   simp only[execOp,Instr.indexAt,hρ,hi,asIntOf,Sem.run_bind,Sem.run_pure,run_underlying k1,Result.andThen_ok]
   rw[if_pos hlt]
   simp only[Sem.run_bind,k2.run_size,Result.andThen_ok,Sem.run_pure,f1k,had,jcc,f1u]
  .rename_i z x' i' h1 h2 h3 h4
   cases hc
   obtain⟨e,k1,k2,k3⟩:=jhl hT h2
   obtain⟨u,hu,hv5⟩:=jaa.1 (show qp9 st fr z.1 z.2.size x' i'=some v from hv)
   obtain⟨u2,hu2,hv6⟩:=jaa.1 hv5
   rcases jbz hv6 with⟨b,off,rfl,hv7⟩ | ⟨cs,rfl,hv7⟩
   rotate_left
   .obtain ⟨k,m,rfl,hm,hv8⟩:=jgd hv7
    cases hv8
    have hi:ρ i=.int k (m:Int):=hE _ (by simp[Op.operands]) _ _ h4 hu2
    obtain⟨b,o,c,h1',hρ,h2'⟩:=(show cS A φ (.cp cs) (ρ x) from hE _ (by simp[Op.operands]) _ _ h3 hu)
    refine⟨.pointer (some ⟨b,o+m*z.2.size,none⟩),?_,j6v h1' h2' _⟩
    have hlt:(0:Int)<=(m:Int)/\(m:Int)<(z.1:Int):=oa
    simp only[execOp,Instr.indexAt,hρ,hi,asIntOf,Sem.run_bind,Sem.run_pure,run_underlying k1,Result.andThen_ok,Instr.sureAddr]
    rw[if_pos hlt]
    simp only[Sem.run_bind,k2.run_size,Result.andThen_ok,Sem.run_pure,f1k,jcc]
   obtain⟨k,m,rfl,hm,hv8⟩:=jgd hv7
   cases hv8
   have hi:ρ i=.int k (m:Int):=hE _ (by simp[Op.operands]) _ _ h4 hu2
   obtain⟨L,hL,hρ⟩:=(show jqj φ b off (ρ x) from hE _ (by simp[Op.operands]) _ _ h3 hu)
   refine⟨.pointer (some ⟨L.b,L.o+(off+m*z.2.size),none⟩),?_,L,hL,rfl⟩
   have hlt:(0:Int)<=(m:Int)/\(m:Int)<(z.1:Int):=oa
   simp only[execOp,Instr.indexAt,hρ,hi,asIntOf,Sem.run_bind,Sem.run_pure,run_underlying k1,Result.andThen_ok,Instr.sureAddr]
   rw[if_pos hlt]
   simp only[Sem.run_bind,k2.run_size,Result.andThen_ok,Sem.run_pure,f1k,jcc,f1u]
  .cases hc
 | index t x i =>
  simp only[cOp] at hc
  cases hst:jc2 T t with
  | true =>
   rw[hst] at hc
   simp only[cond_true] at hc
   split at hc
   .rename_i x' i' h2 h3
    cases hc
    cases (show(none:Option AV)=some v from hv)
   .cases hc
  | false =>
  rw[hst] at hc
  simp only[cond_false] at hc
  split at hc
  .rename_i z x' i' h1 h2 h3
   cases hb:ti1 z.2 with
   | false=>rw[hb] at hc;cases hc
   | true =>
    rw[hb] at hc
    cases hc
    obtain⟨e,k1,k2,k3⟩:=jhl hT h1
    obtain⟨u,hu,hv1⟩:=jaa.1 (show ob (ev st fr x') (fun v=>ob (ev st fr i') (fun w=>AV.casesOn v (fun _=>none) (fun cs=>below w z.1 (fun m=>ob (jbp z.2.size (jb9 (Nat.mul m z.2.size) cs)) (fun cs=>jgs z.2.agg cs))) (fun _=>none) none none))=some v from hv)
    obtain⟨u2,hu2,hv2⟩:=jaa.1 hv1
    cases u with
    | agg cs =>
     obtain⟨k,m,rfl,hm,hv3⟩:=jgd hv2
     obtain⟨xs,hxs,hv4⟩:=jaa.1 hv3
     have hi:ρ i=.int k (m:Int):=hE _ (by simp[Op.operands]) _ _ h3 hu2
     obtain⟨vs,hρ,ha⟩:=(show ∃ vs:List Value,ρ x=.agg vs.toArray/\All2 (cS A φ) cs vs from hE _ (by simp[Op.operands]) _ _ h2 hu)
     obtain⟨rv,hr,hcv⟩:=j36 (w:=w) k2 hb (arr:=vs.toArray) (by simpa using ha) hxs hv4
     refine⟨rv,?_,hcv⟩
     have hlt:(0:Int)<=(m:Int)/\(m:Int)<(z.1:Int):=oa
     have hr':(part e vs.toArray (m*z.2.size)).run P w=.ok rv w:=hr
     simp only[execOp,Instr.index,hρ,hi,asIntOf,Sem.run_bind,Sem.run_pure,run_underlying k1,Result.andThen_ok]
     rw[if_pos hlt]
     simp only[Sem.run_bind,k2.run_size,Result.andThen_ok,Sem.run_pure,f1k,hr']
    | _=>cases hv2
  .cases hc
 | extract x i =>
  obtain⟨y,hy,e⟩:=f0a.1 hc
  cases e
  obtain⟨u,hu,hv1⟩:=jaa.1 (show ob (ev st fr y) (fun v=>AV.casesOn v (fun _=>none) (fun _=>none) (fun l=>ob (je6 l i) (fun p=>jgs p.1 p.2)) none none)=some v from hv)
  cases u with
  | tup l =>
   obtain⟨p,hp,hv2⟩:=jaa.1 hv1
   rw[jc3] at hp
   obtain⟨vs,hρ,ha⟩:=(show ∃ vs:List Value,ρ x=.tuple vs.toArray/\All2 (fun p x=>cV1 A φ p.1 p.2 x) l vs from hE _ (by simp[Op.operands]) _ _ hy hu)
   obtain⟨rv,h1,h2⟩:=ha.get _ _ hp
   refine⟨rv,by simp[execOp,hρ,Instr.extract,h1],?_⟩
   unfold cV1 at h2
   rcases jjs hv2 with⟨e,rfl⟩ | ⟨e,s,hs,rfl⟩
   .rw [if_pos e] at h2;exact h2
   .rw [e] at h2
    simp only[f1c,if_false] at h2
    obtain⟨s',h3,h4⟩:=h2
    rw[hs] at h3
    cases h3
    exact h4
  | _=>cases hv1
 | call c =>
  obtain⟨callee,args,argTypes⟩:=c
  simp only[cOp,j6i] at hc
  split at hc
  .rename_i as has
   split at hc
   .cases hc
   .obtain ⟨y,_,e⟩:=f0a.1 hc
    cases e
   .rename_i b
    split at hc
    .rename_i x
     split at hc
     .rename_i t ht
      cases hst:jc2 T t with
      | true=>rw[hst] at hc;cases hc
      | false =>
      rw[hst] at hc
      simp only[cond_false] at hc
      obtain⟨z,hz,e⟩:=f0a.1 hc
      cases e
      obtain⟨k1,_,_⟩:=jb2 hT hz
      obtain⟨o,ho,hx⟩:=jsb has
      have hargs:args.map ρ=#[ρ o]:=by rw[←f13,f2e,ho];rfl
      obtain⟨u,hu,hv1⟩:=jaa.1 (show qqc st fr x=some v from hv)
      have hr:∀ a n c,ρ o=.slice a n c->(execOp ρ ⟨dst,.call ⟨.builtin .len,args,argTypes⟩,type,pos,after,guard⟩).run P w=.ok (.value (goInt n)) w:=by
       intro a n c h
       simp only[execOp,resolve,invoke,builtin,Sem.run_bind,Sem.run_pure,Result.andThen_ok,hargs,h,Builtin.len_,ht]
       simp[run_underlying k1]
      rcases jbb hv1 with⟨rfl,hv2⟩ | ⟨b,off,len,mc,ex,sz,rfl,hv2⟩ | ⟨rows,rfl,hv2⟩ | ⟨rfl,hv2⟩
      rotate_left 2
      .cases hv2
       obtain⟨ad,cap,hρ,_⟩:=jgv (show cD A φ.k (.lst rows) (ρ o) from hE _ (jb3 (by rw[ho];simp)) _ _ hx hu)
       exact⟨_,hr _ _ _ hρ,by rw[jba];rfl⟩
      .cases hv2
       obtain⟨ad,hρ⟩:=(show cS A φ .emp (ρ o) from hE _ (jb3 (by rw[ho];simp)) _ _ hx hu)
       exact⟨_,hr _ _ _ hρ,rfl⟩
      .cases hv2
       exact⟨_,hr _ _ _ (hE _ (jb3 (by rw[ho];simp)) _ _ hx hu),rfl⟩
      .cases hv2
       obtain⟨L,ad,cap,q1,hρ,_⟩:=(show cS A φ (.slice b off len mc ex sz) (ρ o) from hE _ (jb3 (by rw[ho];simp)) _ _ hx hu)
       exact⟨_,hr _ _ _ hρ,rfl⟩
     .cases hc
    .rename_i x y
     cases hc
     obtain⟨o,o',ho,hx,hy⟩:=jsc has
     have hargs:args.map ρ=#[ρ o,ρ o']:=by rw[←f13,f2e,ho];rfl
     obtain⟨u,hu,hv1⟩:=jaa.1 (show ob (ev st fr x) (fun a=>ob (ev st fr y) (fun b=>jk5 a (fun k m=>jk5 b (fun k' n=>oif (Nat.beq (ikn k) (ikn k')) (some (.s (.int k (oif (ile m n) (oif true n m) (oif true m n))))) none))))=some v from hv)
     obtain⟨u',hu',hv2⟩:=jaa.1 hv1
     obtain⟨k,m,rfl,hv3⟩:=jdy hv2
     obtain⟨k',n,rfl,hv4⟩:=jdy hv3
     obtain⟨hk,hv5⟩:=jae.1 hv4
     obtain rfl:=jn7 hk
     cases hv5
     refine⟨_,?_,rfl⟩
     have h1:ρ o=.int k m:=hE _ (jb3 (by rw[ho];simp)) _ _ hx hu
     have h2:ρ o'=.int k n:=hE _ (jb3 (by rw[ho];simp)) _ _ hy hu'
     simp only[execOp,resolve,invoke,builtin,Sem.run_bind,Sem.run_pure,Result.andThen_ok,hargs,h1,h2,j6r]
     rfl
    .rename_i x y
     cases hc
     obtain⟨o,o',ho,hx,hy⟩:=jsc has
     have hargs:args.map ρ=#[ρ o,ρ o']:=by rw[←f13,f2e,ho];rfl
     obtain⟨u,hu,hv1⟩:=jaa.1 (show ob (ev st fr x) (fun a=>ob (ev st fr y) (fun b=>jk5 a (fun k m=>jk5 b (fun k' n=>oif (Nat.beq (ikn k) (ikn k')) (some (.s (.int k (oif (ile m n) (oif false n m) (oif false m n))))) none))))=some v from hv)
     obtain⟨u',hu',hv2⟩:=jaa.1 hv1
     obtain⟨k,m,rfl,hv3⟩:=jdy hv2
     obtain⟨k',n,rfl,hv4⟩:=jdy hv3
     obtain⟨hk,hv5⟩:=jae.1 hv4
     obtain rfl:=jn7 hk
     cases hv5
     refine⟨_,?_,rfl⟩
     have h1:ρ o=.int k m:=hE _ (jb3 (by rw[ho];simp)) _ _ hx hu
     have h2:ρ o'=.int k n:=hE _ (jb3 (by rw[ho];simp)) _ _ hy hu'
     simp only[execOp,resolve,invoke,builtin,Sem.run_bind,Sem.run_pure,Result.andThen_ok,hargs,h1,h2,j6s]
     rfl
    .split at hc
     .obtain ⟨_,_,e⟩:=f0a.1 hc;cases e
     .cases hc
    .split at hc
     .obtain ⟨_,_,e⟩:=f0a.1 hc;cases e
     .cases hc
    .split at hc
     .obtain ⟨_,_,_,⟨_,e⟩ | ⟨_,_,_,_,e⟩⟩:=jjp hc<;>cases e
     .cases hc
    .cases hc
   .cases hc
  .cases hc
 | alloc e=>obtain⟨_,_,e⟩:=f0a.1 hc;cases e
 | box e x=>obtain⟨_,_,e⟩:=f0a.1 hc;cases e
 | buildSlice t n ps =>
  simp only[cOp] at hc
  split at hc
  .rename_i z hz
   cases hb:Nat.ble (n*z.2.size) 16777216 with
   | true=>rw[hb] at hc;obtain⟨_,_,e⟩:=f0a.1 hc;cases e
   | false=>rw[hb] at hc;cases hc
  .cases hc
 | load t x =>
  simp only[cOp] at hc
  split at hc
  .rename_i ti y _ _
   cases hb:ti1 ti with
   | true=>rw[hb] at hc;cases hc
   | false=>rw[hb] at hc;cases hc
  .cases hc
 | store t x v=>simp only[cOp] at hc;split at hc<;>cases hc
 | makeSlice t l c=>simp only[cOp] at hc;split at hc<;>cases hc
 | makeMap t r=>cases r with
  | none=>obtain⟨_,_,e⟩:=f0a.1 hc;cases e
  | some _=>cases hc
 | lookup t x k okf=>simp only[cOp] at hc;split at hc<;>cases hc
 | mapUpdate t x k v=>simp only[cOp] at hc;split at hc<;>cases hc
 | _=>cases hc
end
end Go.Proofs.YtkpadfebkaangaaGreatDoor.Ev
