/- The interpreter's operations on values against the model's. No program in sight. -/
import Derived.Test.YtehhjbfmjdlcjaaRel
namespace Go.Proofs.Ytehhjbfmjdlcjaa.Ev
open Go
set_option linter.all false
variable {v:AV} {a b:Int} {rows:List (List SV)} {m:Nat}
def qt0:TypeDesc->Bool
 | .struct _=>true
 | .array _ _=>true
 | _=>false
def j47 (P:Program) (d:TypeDesc):TK->Prop
 | .int k=>d=.int k
 | .bool=>d=.bool
 | .slice e=>d=.slice e
 | .array n e=>d=.array n e
 | .struct fs=>∃ fields:Array Field,d=.struct fields/\fs=fields.toList.map (fun f=>(f.offset,f.type))/\∀ f∈fields.toList,∃ i,P.info? f.type=some i
 | .map k e=>d=.map k e
 | .ptr e=>d=.pointer e
 | .str=>d=.string
 | .other=>True
def jjd (P:Program) (g:TypeId->Option (List Bool)):List Field->Nat->Option (List Bool)
 | [],_=>some []
 | f::r,off=>if f.name="_" then none else if f.offset≠off then none else match g f.type,P.info? f.type with
  | some s,some i=>if i.size=s.length/\s.length≠0 then (match jjd P g r (off+s.length) with
   | some l=>some (s++l)
   | none=>none) else none
  | _,_=>none
def jrz (P:Program):Nat->TypeId->Option (List Bool)
 | 0,_=>none
 | d+1,t=>match P.underlying t with
  | some .bool=>some [true]
  | some (.int _)=>some [false]
  | some (.struct fs)=>if P.stoodInHeld t then none else jjd P (jrz P d) fs.toList 0
  | _=>none
def j48:Value->Bool
 | .agg _=>true
 | _=>false
structure TIok (P:Program) (t:TypeId) (ti:TI):Prop where
 ex:∃ i z d,P.info? t=some i/\i.zero=some z/\i.size=ti.size/\i.bytes=ti.bytes/\(∀ A φ,All2 (cS A φ) ti.zero z.cells.toList)/\P.underlying t=some d/\ti.agg=qt0 d/\j47 P d ti.kind/\ti.zero.length=ti.size
 eq:∀ sig,ti.eq=some sig->jrz P 10000 t=some sig/\P.eqGuardType P.depth t=false
 shape:∀ i z,P.info? t=some i->i.zero=some z->j48 z=ti.agg
def Tys (P:Program) (T:Tr TI):Prop:=∀ t ti,jkg T t=some ti->TIok P t ti
section
variable {P:Program} {w:World} {t:TypeId} {ti:TI}
theorem TIok.run_size (k:TIok P t ti):(sizeOf t).run P w=.ok ti.size w:=by
 obtain⟨i,z,d,h1,h2,h3,_⟩:=k.ex
 simp[sizeOf,typeInfo,h1,h3]
theorem TIok.run_zero (k:TIok P t ti):∃ z,(zeroValue t).run P w=.ok z w/\(∀ A φ,All2 (cS A φ) ti.zero z.cells.toList)/\ti.zero.length=ti.size:=by
 obtain⟨i,z,d,h1,h2,h3,h4,h5,_,_,_,h6⟩:=k.ex
 exact⟨z,by simp[zeroValue,typeInfo,h1,h2],h5,h6⟩
theorem TIok.run_agg (k:TIok P t ti):(isAgg t).run P w=.ok ti.agg w:=by
 obtain⟨i,z,d,h1,h2,h3,h4,h5,h6,h7,_⟩:=k.ex
 simp only[isAgg,Sem.run_bind,run_underlying h6,Result.andThen_ok,h7]
 cases d<;>rfl
theorem TIok.und (k:TIok P t ti):∃ d,P.underlying t=some d/\j47 P d ti.kind:=by
 obtain⟨i,z,d,_,_,_,_,_,h6,_,h7,_⟩:=k.ex
 exact⟨d,h6,h7⟩
theorem jb8 {T:Tr TI} (hT:Tys P T) {x:TypeId×TI} (h:jb9 T t=some x):P.underlying t=some (.slice x.1)/\TIok P x.1 x.2/\x.2.size≠0:=by
 unfold jb9 at h
 split at h
 ·rename_i ti hti
  split at h
  ·rename_i e he
   split at h
   ·rename_i z hz
    cases hb:Nat.beq z.size 0 with
    | true=>rw[hb] at h;cases h
    | false =>
     rw[hb] at h
     cases h
     obtain⟨d,h1,h2⟩:=(hT t ti hti).und
     rw[he] at h2
     exact⟨h1.trans (congrArg some h2),hT _ _ hz,fun e=>by simp at e;rw[e] at hb;cases hb⟩
   ·cases h
  ·cases h
 ·cases h
theorem jlv {T:Tr TI} (hT:Tys P T) {x:Nat×TI} (h:jm9 T t=some x):∃ e,P.underlying t=some (.array x.1 e)/\TIok P e x.2/\x.2.size≠0:=by
 unfold jm9 at h
 split at h
 ·rename_i ti hti
  split at h
  ·rename_i n e he
   split at h
   ·rename_i z hz
    cases hb:Nat.beq z.size 0 with
    | true=>rw[hb] at h;cases h
    | false =>
     rw[hb] at h
     cases h
     obtain⟨d,h1,h2⟩:=(hT t ti hti).und
     rw[he] at h2
     exact⟨e,h1.trans (congrArg some h2),hT _ _ hz,fun e=>by simp at e;rw[e] at hb;cases hb⟩
   ·cases h
  ·cases h
 ·cases h
theorem jr0 {T:Tr TI} (hT:Tys P T) {f:Nat} {x:Nat×TI} (h:jmk T t f=some x):∃ fields:Array Field,∃ fd:Field,P.underlying t=some (.struct fields)/\fields[f]?=some fd/\fd.offset=x.1/\TIok P fd.type x.2/\x.2.size≠0:=by
 unfold jmk at h
 split at h
 ·rename_i ti hti
  split at h
  ·rename_i fs he
   split at h
   ·rename_i p hp
    split at h
    ·rename_i z hz
     cases hb:Nat.beq z.size 0 with
     | true=>rw[hb] at h;cases h
     | false =>
      rw[hb] at h
      cases h
      obtain⟨d,h1,h2⟩:=(hT t ti hti).und
      rw[he] at h2
      obtain⟨fields,rfl,rfl,_⟩:=h2
      rw[f09] at hp
      obtain⟨fd,hfd,rfl⟩:=f0c.1 hp
      exact⟨fields,fd,h1,by simpa using hfd,rfl,hT _ _ hz,fun e=>by simp at e;rw[e] at hb;cases hb⟩
    ·cases h
   ·cases h
  ·cases h
 ·cases h
end
section
variable {β:Type} {A:Nat->Int} {φ:Phi}
theorem j0m {e:Option β} {x:AV} {f:SV->Option β} {r:β} (h:svc e x f=some r):(∃ s,x=.s s/\f s=some r)∨(x=.undef/\e=some r):=by
 cases x with
 | s x=>exact .inl ⟨x,rfl,h⟩
 | undef=>exact .inr ⟨rfl,h⟩
 | _=>cases h
theorem jds {x:AV} {f:SV->Option β} {r:β} (h:svc none x f=some r):∃ s,x=.s s/\f s=some r :=
 (j0m h).elim id (fun h=>by cases h.2)
theorem jng {v:SV} {f:IntKind->Int->Option β} {r:β} (h:qgr v f=some r):∃ k n,v=.int k n/\f k n=some r:=by
 cases v with
 | int k n=>exact⟨k,n,rfl,h⟩
 | _=>cases h
theorem jdt {x:AV} {f:IntKind->Int->Option β} {r:β} (h:jmh x f=some r):∃ k n,x=.s (.int k n)/\f k n=some r:=by
 obtain⟨s,rfl,h⟩:=jds h
 obtain⟨k,n,rfl,h⟩:=jng h
 exact⟨k,n,rfl,h⟩
theorem jhp {v:SV} {f:Bool->Option β} {r:β} (h:jp6 v f=some r):∃ b,v=.bool b/\f b=some r:=by
 cases v with
 | bool b=>exact⟨b,rfl,h⟩
 | _=>cases h
theorem jd5 {x:AV} {f:Bool->Option β} {r:β} (h:jii x f=some r):∃ b,x=.s (.bool b)/\f b=some r:=by
 obtain⟨s,rfl,h⟩:=jds h
 obtain⟨b,rfl,h⟩:=jhp h
 exact⟨b,rfl,h⟩
theorem jje {x:AV} {f:Nat->Nat->Option β} {r:β} (h:jvf x f=some r):∃ b o,x=.s (.ptr b o)/\f b o=some r:=by
 obtain⟨s,rfl,h⟩:=jds h
 cases s with
 | ptr b o=>exact⟨b,o,rfl,h⟩
 | _=>cases h
theorem jc2 {x:AV} {f:Nat->Nat->Option β} {g:List SV->Option β} {r:β} (h:je3 x f g=some r):(∃ b o,x=.s (.ptr b o)/\f b o=some r)∨∃ cs,x=.s (.cp cs)/\g cs=some r:=by
 obtain⟨s,rfl,h⟩:=jds h
 cases s with
 | ptr b o=>exact .inl ⟨b,o,rfl,h⟩
 | cp cs=>exact .inr ⟨cs,rfl,h⟩
 | _=>cases h
theorem ja2 {x:AV} {e:Option β} {f:Nat->Nat->Nat->Nat->Bool->Nat->Option β} {g:List (List SV)->Option β} {z:Option β} {r:β} (h:jco x e f g z=some r) :
 (x=.s .nilSlice/\e=some r)∨(∃ b o n m ex sz,x=.s (.slice b o n m ex sz)/\f b o n m ex sz=some r)∨(∃ rows,x=.s (.lst rows)/\g rows=some r)∨(x=.s .emp/\z=some r):=by
 obtain⟨s,rfl,h⟩:=jds h
 cases s with
 | slice b o n m ex sz=>exact .inr (.inl ⟨b,o,n,m,ex,sz,rfl,h⟩)
 | nilSlice=>exact .inl ⟨rfl,h⟩
 | lst rows=>exact .inr (.inr (.inl ⟨rows,rfl,h⟩))
 | emp=>exact .inr (.inr (.inr ⟨rfl,h⟩))
 | _=>cases h
theorem jfr {A:Nat->Int} {k:Nat->Option (Array Value)} {v:Value} (h:cD A k (.lst rows) v) :
 ∃ ad cap,v=.slice (some ad) rows.length cap/\rows.length<=cap/\(rows=[]∨∃ b o sz cs,k b=some cs/\ad=⟨b,o,none⟩/\(∀ (i:Nat) (row:List SV),rows[i]?=some row->row.length=sz) /\
  ∀ (i j:Nat) (row:List SV) (x:SV),rows[i]?=some row->row[j]?=some x->∃ u,cs[o+i*sz+j]?=some u/\cD A k x u):=by
 cases h with
 | lst0 ad cap=>exact⟨ad,cap,rfl,f2i _,.inl rfl⟩
 | lst _ b o cap sz cs g h1 h2 h3 h4 h5=>exact⟨_,cap,rfl,h2,.inr ⟨b,o,sz,cs,h1,rfl,h3,fun i j row x hr hx=>⟨_,h4 i j row x hr hx,h5 i j row x hr hx⟩⟩⟩
theorem qbv {A:Nat->Int} {k:Nat->Option (Array Value)} {b o sz cap lo n:Nat} {cs:Array Value} (h1:k b=some cs) (h2:rows.length<=cap) (h3:∀ (i:Nat) (row:List SV),rows[i]?=some row->row.length=sz)
 (h4:∀ (i j:Nat) (row:List SV) (x:SV),rows[i]?=some row->row[j]?=some x->∃ u,cs[o+i*sz+j]?=some u/\cD A k x u) (h5:lo+n<=rows.length) :
 cD A k (.lst ((rows.drop lo).take n)) (.slice (some ⟨b,o+lo*sz,none⟩) n (cap - lo)):=by
 have hl:((rows.drop lo).take n).length=n:=by simp;omega
 have hg:∀ (i:Nat) (row:List SV),((rows.drop lo).take n)[i]?=some row->rows[lo+i]?=some row:=fun i row h=>by
  rw[f2l] at h
  split at h
  ·rwa [f1u] at h
  ·cases h
 have key:∀ (i j:Nat),∃ u,∀ (row:List SV) (x:SV),rows[lo+i]?=some row->row[j]?=some x->cs[o+(lo+i)*sz+j]?=some u/\cD A k x u:=fun i j=>by
  cases hr:rows[lo+i]? with
  | none=>exact⟨undef,fun _ _ h=>by cases h⟩
  | some row =>
   cases hx:row[j]? with
   | none=>exact⟨undef,fun row' x h h'=>by cases h;rw[hx] at h';cases h'⟩
   | some x =>
    obtain⟨u,a,b⟩:=h4 _ _ _ _ hr hx
    exact⟨u,fun row' x' h h'=>by cases h;rw[hx] at h';cases h';exact⟨a,b⟩⟩
 have e:∀ i j,o+lo*sz+i*sz+j=o+(lo+i)*sz+j:=fun i j=>by rw[f3k];omega
 rw[show(Value.slice (some ⟨b,o+lo*sz,none⟩) n (cap - lo))=.slice (some ⟨b,o+lo*sz,none⟩) ((rows.drop lo).take n).length (cap - lo) by rw[hl]]
 refine .lst _ b (o+lo*sz) (cap - lo) sz cs (fun i j=>Classical.choose (key i j)) h1 (by rw[hl];omega) (fun i row h=>h3 _ _ (hg i row h)) (fun i j row x hr hx=>?_) (fun i j row x hr hx=>?_)
 ·rw[e];exact(Classical.choose_spec (key i j) row x (hg i row hr) hx).1
 ·exact(Classical.choose_spec (key i j) row x (hg i row hr) hx).2
theorem jd6 {x:AV} {f:FuncId->List (Nat×Nat)->Option β} {r:β} (h:jvl x f=some r):∃ g cs,x=.s (.func g cs)/\f g cs=some r:=by
 obtain⟨s,rfl,h⟩:=jds h
 cases s with
 | func g cs=>exact⟨g,cs,rfl,h⟩
 | _=>cases h
theorem jga {x:AV} {n:Nat} {f:Nat->Option β} {r:β} (h:jkj x n f=some r):∃ k,∃ m:Nat,x=.s (.int k m)/\m<n/\f m=some r:=by
 obtain⟨k,i,rfl,h⟩:=jdt h
 cases i with
 | ofNat m =>
  obtain⟨h1,h2⟩:=jae.1 h
  exact⟨k,m,rfl,f0w h1,h2⟩
 | negSucc m=>cases h
theorem je5 {x:AV} {f:Nat->Option β} {r:β} (h:qef x f=some r):∃ m:Nat,x=.s (.int .i64 m)/\f m=some r:=by
 obtain⟨k,i,rfl,h⟩:=jdt h
 obtain⟨h1,h2⟩:=jae.1 h
 cases i with
 | ofNat m=>exact⟨m,by rw[je4 h1]<;>rfl,h2⟩
 | negSucc m=>cases h2
theorem j0n {v:SV} {f:Sx->Option β} {r:β} (h:vSx v f=some r):∃ e,(∀ A φ x,cS A φ v x->x=.int .i64 (den A e))/\f e=some r:=by
 cases v with
 | int k n =>
  obtain⟨h1,h2⟩:=jae.1 h
  exact⟨_,fun A φ x hx=>by rw[je4 h1] at hx;exact hx,h2⟩
 | sym e=>exact⟨e,fun A φ x hx=>hx,h⟩
 | _=>cases h
end
section
variable {P:Program} {w:World} {A:Nat->Int} {φ:Phi}
def cBO:BO->BinOp
 | .add=>.add | .sub=>.sub | .mul=>.mul | .quo=>.quo | .rem=>.rem | .eq=>.eql | .ne=>.neq | .lt=>.lss | .le=>.leq | .gt=>.gtr | .ge=>.geq
 | .and=>.and | .or=>.or | .andNot=>.andNot | .shl=>.shl | .shr=>.shr
theorem j49 {op:BinOp} {o:BO} (h:qtx op=some o):op=cBO o:=by
 cases op<;>simp[qtx] at h<;>subst h<;>rfl
theorem jjf {k:IntKind} {n:Int} (h:j3f k n=some v):v=.s (.int k n)/\k.wrap n=n:=by
 obtain⟨h1,h2⟩:=jae.1 h
 exact⟨(Option.some.inj h2).symm,jjc h1⟩
theorem jnh {k:IntKind} {n:Int} (h:qbl k n=some v):v=.s (.int k (k.wrap n)):=by
 have h':oif (inR k n) (some (AV.s (.int k n))) (oif (jm7 k) (some (.s (.int k (IntKind.wrap .i64 n)))) none)=some v:=h
 rw[jaw] at h'
 split at h'
 ·rename_i h1;cases h';rw[jjc h1]
 ·obtain⟨h1,h2⟩:=jae.1 h'
  cases h2
  rw[je4 h1]
theorem j0o {f:Nat->Nat->Option AV} (h:nn2 a b f=some v):∃ m n:Nat,a=m/\b=n/\f m n=some v:=by
 cases a with
 | ofNat m=>cases b with
  | ofNat n=>exact⟨m,n,rfl,rfl,h⟩
  | negSucc n=>cases h
 | negSucc m=>cases h
theorem jr1 {f g:Nat->Nat->Option AV} (h:nn3 a b f g=some v):∃ m n:Nat,b=n/\((a=m/\f m n=some v)∨(a=Int.negSucc m/\g m n=some v)):=by
 cases a with
 | ofNat m=>cases b with
  | ofNat n=>exact⟨m,n,rfl,.inl ⟨rfl,h⟩⟩
  | negSucc n=>cases h
 | negSucc m=>cases b with
  | ofNat n=>exact⟨m,n,rfl,.inr ⟨rfl,h⟩⟩
  | negSucc n=>cases h
theorem jni (h:inR .i64 (Int.negSucc m)=true):m<9223372036854775808:=by
 rcases jez h with⟨_,a,b⟩ | ⟨e,_⟩ | ⟨e,_⟩
 ·omega
 ·cases e
 ·cases e
theorem qeg:BitVec.ofInt 64 (Int.negSucc m) = ~~~ BitVec.ofNat 64 m:=by
 apply BitVec.eq_of_toInt_eq
 rw[BitVec.toInt_ofInt,BitVec.toInt_not,BitVec.toNat_ofNat]
 have h:(2:Int) ^ 64=18446744073709551616:=by decide
 have h2:(2:Nat) ^ 64=18446744073709551616:=by decide
 rw[h,h2,Int.bmod_def,Int.bmod_def]
 split<;>split<;>omega
theorem jg9 {k:IntKind} (h:inR k (.ofNat m)=true):m<2 ^ k.bits/\(BitVec.ofInt k.bits (m:Int)).toNat=m/\(∀ l:Nat,l<=m->k.wrap l=l):=by
 rcases jez h with⟨rfl,h1,h2⟩ | ⟨rfl,h1,h2⟩ | ⟨rfl,h1,h2⟩ <;>
  (refine⟨by simp[IntKind.bits] at *;omega,by simp[IntKind.bits,BitVec.toNat_ofInt] at *;omega,fun l hl=>?_⟩;simp[IntKind.wrap,IntKind.bits,IntKind.signed] at *;omega)
theorem jr2 {k:IntKind} {n:Nat} (h:jxw k n=true):min n k.bits=n:=by
 unfold jxw at h
 simp only[jaw] at h
 split at h
 ·rename_i h1;have:=f0w h1;cases k<;>simp[IntKind.bits]<;>omega
 ·split at h
  ·rename_i h2
   have:=f0w h2
   split at h
   ·rename_i h3;rw[je4 h3];simp[IntKind.bits];omega
   ·rw[j46 h];simp[IntKind.bits];omega
  ·cases h
theorem jha {n:Nat} (x y:BitVec n):(x &&& ~~~y).toNat=x.toNat ^^^ (x.toNat &&& y.toNat):=by
 have:x &&& ~~~y=x ^^^ (x &&& y):=by
  apply BitVec.eq_of_getLsbD_eq
  intro i hi
  simp only[BitVec.getLsbD_and,BitVec.getLsbD_not,BitVec.getLsbD_xor,hi,decide_true,Bool.true_and]
  cases x.getLsbD i<;>cases y.getLsbD i<;>rfl
 rw[this,BitVec.toNat_xor,BitVec.toNat_and]
theorem qpb {k:IntKind} {n:Nat} (h1:inR k (.ofNat m)=true) (h2:inR k (.ofNat n)=true):k.wrap ((m ||| n:Nat):Int)=((m ||| n:Nat):Int):=by
 rcases jez h1 with⟨rfl,a1,a2⟩ | ⟨rfl,a1,a2⟩ | ⟨rfl,a1,a2⟩ <;>
 rcases jez h2 with⟨e,b1,b2⟩ | ⟨e,b1,b2⟩ | ⟨e,b1,b2⟩<;>first | (cases e;done) | skip
 ·have:=f3b (x:=m) (y:=n) (n:=63) (by simp at *;omega) (by simp at *;omega)
  simp[IntKind.wrap,IntKind.bits,IntKind.signed] at *;omega
 ·have:=f3b (x:=m) (y:=n) (n:=8) (by simp at *;omega) (by simp at *;omega)
  simp[IntKind.wrap,IntKind.bits,IntKind.signed] at *;omega
 ·have:=f3b (x:=m) (y:=n) (n:=64) (by simp at *;omega) (by simp at *;omega)
  simp[IntKind.wrap,IntKind.bits,IntKind.signed] at *;omega
theorem jnj {o:BO} {k k':IntKind} (h:jvk o k a b=some v) (hk:k=k'∨shk o=true) (t:TypeId) :
 ∃ rv,(Go.binOp (cBO o) t (.int k a) (.int k' b)).run P w=.ok rv w/\cV A φ v rv:=by
 cases o
 case add=>obtain rfl:=hk.resolve_right (by intro h;cases h);obtain rfl:=jnh (show qbl k (qof a b)=some v from h);exact⟨_,by simp[Go.binOp,cBO,Op.intArith]<;>rfl,by rw[j45];rfl⟩
 case sub=>obtain rfl:=hk.resolve_right (by intro h;cases h);obtain rfl:=jnh (show qbl k (a - b)=some v from h);exact⟨_,by simp[Go.binOp,cBO,Op.intArith]<;>rfl,rfl⟩
 case mul=>obtain rfl:=hk.resolve_right (by intro h;cases h);obtain rfl:=jnh (show qbl k (a*b)=some v from h);exact⟨_,by simp[Go.binOp,cBO,Op.intArith]<;>rfl,rfl⟩
 case quo =>
  obtain rfl:=hk.resolve_right (by intro h;cases h)
  have h':oif (ieq b 0) none (j3f k (a.tdiv b))=some v:=h
  rw[jaw] at h'
  split at h'
  ·cases h'
  ·rename_i h0
   rw[jcp] at h0
   have hb:¬ b=0:=by simpa using h0
   obtain⟨rfl,e⟩:=jjf h'
   exact⟨_,by simp[Go.binOp,cBO,Op.intDiv,hb,e]<;>rfl,rfl⟩
 case rem =>
  obtain rfl:=hk.resolve_right (by intro h;cases h)
  have h':oif (ieq b 0) none (j3f k (a.tmod b))=some v:=h
  rw[jaw] at h'
  split at h'
  ·cases h'
  ·rename_i h0
   rw[jcp] at h0
   have hb:¬ b=0:=by simpa using h0
   obtain⟨rfl,e⟩:=jjf h'
   exact⟨_,by simp[Go.binOp,cBO,Op.intDiv,hb]<;>rfl,rfl⟩
 case eq=>obtain rfl:=hk.resolve_right (by intro h;cases h);cases (show some (AV.s (.bool (ieq a b)))=some v from h);exact⟨_,by simp[Go.binOp,cBO,Op.intCmp]<;>rfl,by rw[jcp];first | rfl | exact congrArg _ (by rw[f19];simp)⟩
 case ne=>obtain rfl:=hk.resolve_right (by intro h;cases h);cases (show some (AV.s (.bool (ji4 (ieq a b))))=some v from h);exact⟨_,by simp[Go.binOp,cBO,Op.intCmp]<;>rfl,by rw[jcp,jgp];exact congrArg _ (by rw[f19];simp)⟩
 case lt=>obtain rfl:=hk.resolve_right (by intro h;cases h);cases (show some (AV.s (.bool (ji4 (ile b a))))=some v from h);exact⟨_,by simp[Go.binOp,cBO,Op.intCmp]<;>rfl,by rw[jen,jgp];exact congrArg _ (by rw[f19];simp)⟩
 case le=>obtain rfl:=hk.resolve_right (by intro h;cases h);cases (show some (AV.s (.bool (ile a b)))=some v from h);exact⟨_,by simp[Go.binOp,cBO,Op.intCmp]<;>rfl,by rw[jen];first | rfl | exact congrArg _ (by rw[f19];simp)⟩
 case gt=>obtain rfl:=hk.resolve_right (by intro h;cases h);cases (show some (AV.s (.bool (ji4 (ile a b))))=some v from h);exact⟨_,by simp[Go.binOp,cBO,Op.intCmp]<;>rfl,by rw[jen,jgp];exact congrArg _ (by rw[f19];simp)⟩
 case ge=>obtain rfl:=hk.resolve_right (by intro h;cases h);cases (show some (AV.s (.bool (ile b a)))=some v from h);exact⟨_,by simp[Go.binOp,cBO,Op.intCmp]<;>rfl,by rw[jen];first | rfl | exact congrArg _ (by rw[f19];simp)⟩
 case and =>
  obtain rfl:=hk.resolve_right (by intro h;cases h)
  obtain⟨m,n,rfl,⟨rfl,h⟩ | ⟨rfl,h⟩⟩:=jr1 h
  ·obtain⟨h1,h⟩:=jae.1 h
   obtain⟨h2,h⟩:=jae.1 h
   cases h
   obtain⟨a1,a2,a3⟩:=jg9 h1
   obtain⟨b1,b2,b3⟩:=jg9 h2
   refine⟨.int k ((m &&& n:Nat):Int),?_,rfl⟩
   simp only[Go.binOp,cBO,Op.intBits,ne_eq,not_true_eq_false,if_false,Sem.run_pure,BitVec.toNat_and,a2,b2]
   rw[a3 _ Nat.and_le_left]
  ·obtain⟨h0,h⟩:=jae.1 h
   obtain⟨h1,h⟩:=jae.1 h
   obtain⟨h2,h⟩:=jae.1 h
   cases h
   obtain rfl:=je4 h0
   obtain⟨b1,b2,b3⟩:=jg9 h2
   have hm:m<2 ^ 64:=by have:=jni h1;omega
   have e1:(BitVec.ofInt 64 (Int.negSucc m) &&& BitVec.ofInt 64 (n:Int)).toNat=n ^^^ (n &&& m):=by
    rw[qeg,BitVec.and_comm,jha,BitVec.toNat_ofNat,f3s hm]
    have b2':(BitVec.ofInt 64 (n:Int)).toNat=n:=b2
    rw[b2']
   refine⟨.int .i64 ((n ^^^ (n &&& m):Nat):Int),?_,rfl⟩
   have hle:n ^^^ (n &&& m)<=n:=by
    have b2':(BitVec.ofInt 64 (n:Int)).toNat=n:=b2
    rw[←e1,BitVec.toNat_and,b2'];exact Nat.and_le_right
   simp only[Go.binOp,cBO,Op.intBits,ne_eq,not_true_eq_false,if_false,Sem.run_pure]
   rw[show IntKind.bits .i64=64 from rfl,e1,b3 _ hle]
 case or =>
  obtain rfl:=hk.resolve_right (by intro h;cases h)
  obtain⟨m,n,rfl,⟨rfl,h⟩ | ⟨rfl,h⟩⟩:=jr1 h
  ·obtain⟨h1,h⟩:=jae.1 h
   obtain⟨h2,h⟩:=jae.1 h
   cases h
   obtain⟨a1,a2,a3⟩:=jg9 h1
   obtain⟨b1,b2,b3⟩:=jg9 h2
   refine⟨.int k ((m ||| n:Nat):Int),?_,rfl⟩
   simp only[Go.binOp,cBO,Op.intBits,ne_eq,not_true_eq_false,if_false,Sem.run_pure,BitVec.toNat_or,a2,b2]
   rw[qpb h1 h2]
  ·obtain⟨h0,h⟩:=jae.1 h
   obtain⟨h1,h⟩:=jae.1 h
   obtain⟨h2,h⟩:=jae.1 h
   cases h
   obtain rfl:=je4 h0
   obtain⟨b1,b2,b3⟩:=jg9 h2
   have hm:m<2 ^ 63:=by have:=jni h1;omega
   have b2':(BitVec.ofInt 64 (n:Int)).toNat=n:=b2
   have hle:m ^^^ (m &&& n)<=m:=by
    have e:=jha (BitVec.ofNat 64 m) (BitVec.ofInt 64 (n:Int))
    rw[BitVec.toNat_ofNat,f3s (by omega),b2'] at e
    rw[←e,BitVec.toNat_and,BitVec.toNat_ofNat,f3s (by omega)]
    exact Nat.and_le_left
   have e1:(BitVec.ofInt 64 (Int.negSucc m) ||| BitVec.ofInt 64 (n:Int)).toNat=2 ^ 64 - 1 - (m ^^^ (m &&& n)):=by
    have e2:BitVec.ofInt 64 (Int.negSucc m) ||| BitVec.ofInt 64 (n:Int) = ~~~ (BitVec.ofNat 64 m &&& ~~~ BitVec.ofInt 64 (n:Int)):=by
     rw[qeg]
     apply BitVec.eq_of_getLsbD_eq
     intro i hi
     simp only[BitVec.getLsbD_and,BitVec.getLsbD_not,BitVec.getLsbD_or,hi,decide_true,Bool.true_and]
     cases (BitVec.ofNat 64 m).getLsbD i<;>cases (BitVec.ofInt 64 (n:Int)).getLsbD i<;>rfl
    rw[e2,BitVec.toNat_not,jha,BitVec.toNat_ofNat,f3s (by omega),b2']
   refine⟨.int .i64 (Int.negSucc (m ^^^ (m &&& n))),?_,rfl⟩
   simp only[Go.binOp,cBO,Op.intBits,ne_eq,not_true_eq_false,if_false,Sem.run_pure]
   rw[show IntKind.bits .i64=64 from rfl,e1]
   generalize m ^^^ (m &&& n)=q at hle
   have:IntKind.wrap .i64 ((2 ^ 64 - 1 - q:Nat):Int)=Int.negSucc q:=by
    simp only[IntKind.wrap,IntKind.bits,IntKind.signed]
    have h2:(2:Nat) ^ 64=18446744073709551616:=by decide
    have h3:(2:Nat) ^ 63=9223372036854775808:=by decide
    have:Int.negSucc q=-(q:Int) - 1:=by omega
    simp
    omega
   rw[this]
 case andNot =>
  obtain rfl:=hk.resolve_right (by intro h;cases h)
  obtain⟨m,n,rfl,rfl,h⟩:=j0o h
  obtain⟨h1,h⟩:=jae.1 h
  obtain⟨h2,h⟩:=jae.1 h
  cases h
  obtain⟨a1,a2,a3⟩:=jg9 h1
  obtain⟨b1,b2,b3⟩:=jg9 h2
  refine⟨.int k ((m ^^^ (m &&& n):Nat):Int),?_,rfl⟩
  simp only[Go.binOp,cBO,Op.intBits,ne_eq,not_true_eq_false,if_false,Sem.run_pure,jha,a2,b2]
  have e:m ^^^ (m &&& n)=(BitVec.ofInt k.bits (m:Int) &&& ~~~ BitVec.ofInt k.bits (n:Int)).toNat:=by rw[jha,a2,b2]
  have hle:m ^^^ (m &&& n)<=m:=by
   rw[e,BitVec.toNat_and,a2];exact Nat.and_le_left
  rw[a3 _ hle]
 case shl =>
  obtain⟨m,n,rfl,rfl,h⟩:=j0o h
  obtain⟨h1,h⟩:=jae.1 h
  obtain⟨rfl,e⟩:=jjf h
  have hm:=jr2 h1
  refine⟨_,?_,rfl⟩
  have e':k.wrap ((m:Int)*2 ^ n)=Int.ofNat (Nat.mul m (Nat.pow 2 n)):=by
   have:((m:Int)*2 ^ n)=Int.ofNat (Nat.mul m (Nat.pow 2 n)):=by
    have:Int.ofNat (Nat.mul m (Nat.pow 2 n))=((m*2 ^ n:Nat):Int):=rfl
    rw[this,Int.natCast_mul,f3l];rfl
   rw[this];exact e
  have hn:¬ ((n:Int)<0):=by omega
  simp only[Go.binOp,cBO,Op.shift,hn,if_false,f2k,hm,Sem.run_pure,e']
 case shr =>
  obtain⟨m,n,rfl,⟨rfl,h⟩ | ⟨rfl,h⟩⟩:=jr1 h
  ·obtain⟨h1,h⟩:=jae.1 h
   cases h
   have hm:=jr2 h1
   refine⟨_,?_,rfl⟩
   have e':(m:Int).fdiv (2 ^ n)=Int.ofNat (Nat.div m (Nat.pow 2 n)):=by
    rw[Int.fdiv_eq_ediv_of_nonneg _ (by exact Int.le_of_lt (Int.pow_pos (by decide)))]
    have:Int.ofNat (Nat.div m (Nat.pow 2 n))=((m / 2 ^ n:Nat):Int):=rfl
    rw[this,Int.natCast_ediv,f3l];rfl
   have hn:¬ ((n:Int)<0):=by omega
   simp only[Go.binOp,cBO,Op.shift,hn,if_false,f2k,hm,Sem.run_pure,e']
  ·obtain⟨h1,h⟩:=jae.1 h
   cases h
   have hm:=jr2 h1
   refine⟨_,?_,rfl⟩
   have e':(Int.negSucc m).fdiv (2 ^ n)=Int.negSucc (Nat.div m (Nat.pow 2 n)):=by
    obtain⟨q,hq⟩:∃ q,2 ^ n=q+1:=⟨2 ^ n - 1,by have:=Nat.two_pow_pos n;omega⟩
    have h2:(2:Int) ^ n=((q+1:Nat):Int):=by rw[←hq,f3l];rfl
    have h3:Nat.pow 2 n=q+1:=hq
    rw[h2,h3];rfl
   have hn:¬ ((n:Int)<0):=by omega
   simp only[Go.binOp,cBO,Op.shift,hn,if_false,f2k,hm,Sem.run_pure,e']
theorem jnk {o:BO} {e e':Sx} (h:j3g o e e'=some v) (t:TypeId) :
 ∃ rv,(Go.binOp (cBO o) t (.int .i64 (den A e)) (.int .i64 (den A e'))).run P w=.ok rv w/\cV A φ v rv:=by
 cases (show(none:Option AV)=some v from h)
theorem jx2 {o:BO} {a b:SV} {x y:Value} (h:jcu o a b=some v) (hx:cS A φ a x) (hy:cS A φ b y) (t:TypeId) :
 ∃ rv,(Go.binOp (cBO o) t x y).run P w=.ok rv w/\cV A φ v rv:=by
 cases a with
 | int k m =>
  cases (show x=.int k m from hx)
  cases b with
  | int k' n =>
   cases (show y=.int k' n from hy)
   have h':oif (Nat.beq (ikn k) (ikn k')) (jvk o k m n) (oif (shk o) (jvk o k m n) none)=some v:=h
   rw[jaw] at h'
   split at h'
   ·rename_i h1;exact jnj h' (.inl (jkl h1)) t
   ·obtain⟨h1,h'⟩:=jae.1 h';exact jnj h' (.inr h1) t
  | sym e =>
   cases (show y=.int .i64 (den A e) from hy)
   obtain⟨h1,h'⟩:=jae.1 (show oif (jm7 k) (j3g o (.lit m) e) none=some v from h)
   rw[je4 h1]
   exact jnk h' t
  | _=>cases h
 | sym e =>
  cases (show x=.int .i64 (den A e) from hx)
  obtain⟨e',h1,h2⟩:=j0n (show vSx b (fun e'=>j3g o e e')=some v from h)
  cases h1 _ _ _ hy
  exact jnk h2 t
 | _=>cases h
end
end Go.Proofs.Ytehhjbfmjdlcjaa.Ev
