/- The interpreter's operations on values against the model's. No program in sight. -/
import Derived.Test.YtehhjbfmjdlcjaaRel
namespace Go.Proofs.Ytehhjbfmjdlcjaa.Ev
open Go
set_option linter.all false
variable {v:AV} {a b:Int} {rows:List (List SV)} {m:Nat}
def qqo:TypeDesc->Bool
 | .struct _=>true
 | .array _ _=>true
 | _=>false
def j4e (P:Program) (d:TypeDesc):TK->Prop
 | .int k=>d=.int k
 | .bool=>d=.bool
 | .slice e=>d=.slice e
 | .array n e=>d=.array n e
 | .struct fs=>∃ fields:Array Field,d=.struct fields/\fs=fields.toList.map (fun f=>(f.offset,f.type))/\∀ f∈fields.toList,∃ i,P.info? f.type=some i
 | .map k e=>d=.map k e
 | .ptr e=>d=.pointer e
 | .str=>d=.string
 | .other=>True
def jgj (P:Program) (g:TypeId->Option (List Bool)):List Field->Nat->Option (List Bool)
 | [],_=>some []
 | f::r,off=>if f.name="_" then none else if f.offset≠off then none else match g f.type,P.info? f.type with
  | some s,some i=>if i.size=s.length/\s.length≠0 then (match jgj P g r (off+s.length) with
   | some l=>some (s++l)
   | none=>none) else none
  | _,_=>none
def jf9 (P:Program):Nat->TypeId->Option (List Bool)
 | 0,_=>none
 | d+1,t=>match P.underlying t with
  | some .bool=>some [true]
  | some (.int _)=>some [false]
  | some (.struct fs)=>if P.stoodInHeld t then none else jgj P (jf9 P d) fs.toList 0
  | _=>none
def jz8:Value->Bool
 | .agg _=>true
 | _=>false
structure TIok (P:Program) (t:TypeId) (ti:TI):Prop where
 ex:∃ i z d,P.info? t=some i/\i.zero=some z/\i.size=ti.size/\i.bytes=ti.bytes/\(∀ A φ,All2 (cS A φ) ti.zero z.cells.toList)/\P.underlying t=some d/\ti.agg=qqo d/\j4e P d ti.kind/\ti.zero.length=ti.size
 eq:∀ sig,ti.eq=some sig->jf9 P 10000 t=some sig/\P.eqGuardType P.depth t=false
 shape:∀ i z,P.info? t=some i->i.zero=some z->jz8 z=ti.agg
def Tys (P:Program) (T:Tr TI):Prop:=∀ t ti,jhj T t=some ti->TIok P t ti
section
variable {P:Program} {w:World} {t:TypeId} {ti:TI}
theorem TIok.run_size (k:TIok P t ti):(sizeOf t).run P w=.ok ti.size w:=by
 obtain ⟨i,z,d,h1,h2,h3,_⟩:=k.ex
 simp [sizeOf,typeInfo,h1,h3]
theorem TIok.run_zero (k:TIok P t ti):∃ z,(zeroValue t).run P w=.ok z w/\(∀ A φ,All2 (cS A φ) ti.zero z.cells.toList)/\ti.zero.length=ti.size:=by
 obtain ⟨i,z,d,h1,h2,h3,h4,h5,_,_,_,h6⟩:=k.ex
 exact ⟨z,by simp [zeroValue,typeInfo,h1,h2],h5,h6⟩
theorem TIok.run_agg (k:TIok P t ti):(isAgg t).run P w=.ok ti.agg w:=by
 obtain ⟨i,z,d,h1,h2,h3,h4,h5,h6,h7,_⟩:=k.ex
 simp only [isAgg,Sem.run_bind,run_underlying h6,Result.andThen_ok,h7]
 cases d<;>rfl
theorem TIok.und (k:TIok P t ti):∃ d,P.underlying t=some d/\j4e P d ti.kind:=by
 obtain ⟨i,z,d,_,_,_,_,_,h6,_,h7,_⟩:=k.ex
 exact ⟨d,h6,h7⟩
theorem jbq {T:Tr TI} (hT:Tys P T) {x:TypeId×TI} (h:jb8 T t=some x):P.underlying t=some (.slice x.1)/\TIok P x.1 x.2/\x.2.size≠0:=by
 unfold jb8 at h
 split at h
 ·rename_i ti hti
  split at h
  ·rename_i e he
   split at h
   ·rename_i z hz
    cases hb:Nat.beq z.size 0 with
    | true=>rw [hb] at h;cases h
    | false =>
     rw [hb] at h
     cases h
     obtain ⟨d,h1,h2⟩:=(hT t ti hti).und
     rw [he] at h2
     exact ⟨h1.trans (congrArg some h2),hT _ _ hz,fun e=>by simp at e;rw [e] at hb;cases hb⟩
   ·cases h
  ·cases h
 ·cases h
theorem jho {T:Tr TI} (hT:Tys P T) {x:Nat×TI} (h:jkw T t=some x):∃ e,P.underlying t=some (.array x.1 e)/\TIok P e x.2/\x.2.size≠0:=by
 unfold jkw at h
 split at h
 ·rename_i ti hti
  split at h
  ·rename_i n e he
   split at h
   ·rename_i z hz
    cases hb:Nat.beq z.size 0 with
    | true=>rw [hb] at h;cases h
    | false =>
     rw [hb] at h
     cases h
     obtain ⟨d,h1,h2⟩:=(hT t ti hti).und
     rw [he] at h2
     exact ⟨e,h1.trans (congrArg some h2),hT _ _ hz,fun e=>by simp at e;rw [e] at hb;cases hb⟩
   ·cases h
  ·cases h
 ·cases h
theorem jxx {T:Tr TI} (hT:Tys P T) (h:jqr T t=true):P.underlying t=some .string:=by
 unfold jqr at h
 split at h
 ·rename_i ti hti
  split at h
  ·rename_i he
   obtain ⟨d,h1,h2⟩:=(hT t ti hti).und
   rw [he] at h2
   exact h1.trans (congrArg some h2)
  ·cases h
 ·cases h
theorem jjq {T:Tr TI} (hT:Tys P T) {f:Nat} {x:Nat×TI} (h:jmy T t f=some x):∃ fields:Array Field,∃ fd:Field,P.underlying t=some (.struct fields)/\fields[f]?=some fd/\fd.offset=x.1/\TIok P fd.type x.2/\x.2.size≠0:=by
 unfold jmy at h
 split at h
 ·rename_i ti hti
  split at h
  ·rename_i fs he
   split at h
   ·rename_i p hp
    split at h
    ·rename_i z hz
     cases hb:Nat.beq z.size 0 with
     | true=>rw [hb] at h;cases h
     | false =>
      rw [hb] at h
      cases h
      obtain ⟨d,h1,h2⟩:=(hT t ti hti).und
      rw [he] at h2
      obtain ⟨fields,rfl,rfl,_⟩:=h2
      rw [f1i] at hp
      obtain ⟨fd,hfd,rfl⟩:=f0a.1 hp
      exact ⟨fields,fd,h1,by simpa using hfd,rfl,hT _ _ hz,fun e=>by simp at e;rw [e] at hb;cases hb⟩
    ·cases h
   ·cases h
  ·cases h
 ·cases h
end
section
variable {β:Type} {A:Nat->Int} {φ:Phi}
theorem jz9 {e:Option β} {x:AV} {f:SV->Option β} {r:β} (h:svc e x f=some r):(∃ s,x=.s s/\f s=some r)∨(x=.undef/\e=some r):=by
 cases x with
 | s x=>exact .inl ⟨x,rfl,h⟩
 | undef=>exact .inr ⟨rfl,h⟩
 | _=>cases h
theorem jcm {x:AV} {f:SV->Option β} {r:β} (h:svc none x f=some r):∃ s,x=.s s/\f s=some r :=
 (jz9 h).elim id (fun h=>by cases h.2)
theorem jjr {v:SV} {f:IntKind->Int->Option β} {r:β} (h:j9v v f=some r):∃ k n,v=.int k n/\f k n=some r:=by
 cases v with
 | int k n=>exact ⟨k,n,rfl,h⟩
 | _=>cases h
theorem jdo {x:AV} {f:IntKind->Int->Option β} {r:β} (h:jmw x f=some r):∃ k n,x=.s (.int k n)/\f k n=some r:=by
 obtain ⟨s,rfl,h⟩:=jcm h
 obtain ⟨k,n,rfl,h⟩:=jjr h
 exact ⟨k,n,rfl,h⟩
theorem jgk {v:SV} {f:Bool->Option β} {r:β} (h:jmo v f=some r):∃ b,v=.bool b/\f b=some r:=by
 cases v with
 | bool b=>exact ⟨b,rfl,h⟩
 | _=>cases h
theorem jdy {x:AV} {f:Bool->Option β} {r:β} (h:jiw x f=some r):∃ b,x=.s (.bool b)/\f b=some r:=by
 obtain ⟨s,rfl,h⟩:=jcm h
 obtain ⟨b,rfl,h⟩:=jgk h
 exact ⟨b,rfl,h⟩
theorem jgl {x:AV} {f:Nat->Nat->Option β} {r:β} (h:jrw x f=some r):∃ b o,x=.s (.ptr b o)/\f b o=some r:=by
 obtain ⟨s,rfl,h⟩:=jcm h
 cases s with
 | ptr b o=>exact ⟨b,o,rfl,h⟩
 | _=>cases h
theorem jnm {x:AV} {e:Option β} {f:Nat->Nat->Nat->Nat->Bool->Nat->Option β} {r:β} (h:jhh x e f=some r):(x=.s .nilSlice/\e=some r)∨∃ b o n m ex sz,x=.s (.slice b o n m ex sz)/\f b o n m ex sz=some r:=by
 obtain ⟨s,rfl,h⟩:=jcm h
 cases s with
 | slice b o n m ex sz=>exact .inr ⟨b,o,n,m,ex,sz,rfl,h⟩
 | nilSlice=>exact .inl ⟨rfl,h⟩
 | _=>cases h
theorem jc0 {x:AV} {f:Nat->Nat->Option β} {g:List SV->Option β} {r:β} (h:je2 x f g=some r):(∃ b o,x=.s (.ptr b o)/\f b o=some r)∨∃ cs,x=.s (.cp cs)/\g cs=some r:=by
 obtain ⟨s,rfl,h⟩:=jcm h
 cases s with
 | ptr b o=>exact .inl ⟨b,o,rfl,h⟩
 | cp cs=>exact .inr ⟨cs,rfl,h⟩
 | _=>cases h
theorem jaz {x:AV} {e:Option β} {f:Nat->Nat->Nat->Nat->Bool->Nat->Option β} {g:List (List SV)->Option β} {z:Option β} {r:β} (h:jcv x e f g z=some r) :
 (x=.s .nilSlice/\e=some r)∨(∃ b o n m ex sz,x=.s (.slice b o n m ex sz)/\f b o n m ex sz=some r)∨(∃ rows,x=.s (.lst rows)/\g rows=some r)∨(x=.s .emp/\z=some r):=by
 obtain ⟨s,rfl,h⟩:=jcm h
 cases s with
 | slice b o n m ex sz=>exact .inr (.inl ⟨b,o,n,m,ex,sz,rfl,h⟩)
 | nilSlice=>exact .inl ⟨rfl,h⟩
 | lst rows=>exact .inr (.inr (.inl ⟨rows,rfl,h⟩))
 | emp=>exact .inr (.inr (.inr ⟨rfl,h⟩))
 | _=>cases h
theorem jeo {A:Nat->Int} {k:Nat->Option (Array Value)} {v:Value} (h:cD A k (.lst rows) v) :
 ∃ ad cap,v=.slice (some ad) rows.length cap/\rows.length<=cap/\(rows=[]∨∃ b o sz cs,k b=some cs/\ad=⟨b,o,none⟩/\(∀ (i:Nat) (row:List SV),rows[i]?=some row->row.length=sz) /\
  ∀ (i j:Nat) (row:List SV) (x:SV),rows[i]?=some row->row[j]?=some x->∃ u,cs[o+i*sz+j]?=some u/\cD A k x u):=by
 cases h with
 | lst0 ad cap=>exact ⟨ad,cap,rfl,f18 _,.inl rfl⟩
 | lst _ b o cap sz cs g h1 h2 h3 h4 h5=>exact ⟨_,cap,rfl,h2,.inr ⟨b,o,sz,cs,h1,rfl,h3,fun i j row x hr hx=>⟨_,h4 i j row x hr hx,h5 i j row x hr hx⟩⟩⟩
theorem j93 {A:Nat->Int} {k:Nat->Option (Array Value)} {b o sz cap lo n:Nat} {cs:Array Value} (h1:k b=some cs) (h2:rows.length<=cap) (h3:∀ (i:Nat) (row:List SV),rows[i]?=some row->row.length=sz)
 (h4:∀ (i j:Nat) (row:List SV) (x:SV),rows[i]?=some row->row[j]?=some x->∃ u,cs[o+i*sz+j]?=some u/\cD A k x u) (h5:lo+n<=rows.length) :
 cD A k (.lst ((rows.drop lo).take n)) (.slice (some ⟨b,o+lo*sz,none⟩) n (cap - lo)):=by
 have hl:((rows.drop lo).take n).length=n:=by simp;omega
 have hg:∀ (i:Nat) (row:List SV),((rows.drop lo).take n)[i]?=some row->rows[lo+i]?=some row:=fun i row h=>by
  rw [f2a] at h
  split at h
  ·rwa [f1p] at h
  ·cases h
 have key:∀ (i j:Nat),∃ u,∀ (row:List SV) (x:SV),rows[lo+i]?=some row->row[j]?=some x->cs[o+(lo+i)*sz+j]?=some u/\cD A k x u:=fun i j=>by
  cases hr:rows[lo+i]? with
  | none=>exact ⟨undef,fun _ _ h=>by cases h⟩
  | some row =>
   cases hx:row[j]? with
   | none=>exact ⟨undef,fun row' x h h'=>by cases h;rw [hx] at h';cases h'⟩
   | some x =>
    obtain ⟨u,a,b⟩:=h4 _ _ _ _ hr hx
    exact ⟨u,fun row' x' h h'=>by cases h;rw [hx] at h';cases h';exact ⟨a,b⟩⟩
 have e:∀ i j,o+lo*sz+i*sz+j=o+(lo+i)*sz+j:=fun i j=>by rw [f23];omega
 rw [show (Value.slice (some ⟨b,o+lo*sz,none⟩) n (cap - lo))=.slice (some ⟨b,o+lo*sz,none⟩) ((rows.drop lo).take n).length (cap - lo) by rw [hl]]
 refine .lst _ b (o+lo*sz) (cap - lo) sz cs (fun i j=>Classical.choose (key i j)) h1 (by rw [hl];omega) (fun i row h=>h3 _ _ (hg i row h)) (fun i j row x hr hx=>?_) (fun i j row x hr hx=>?_)
 ·rw [e];exact (Classical.choose_spec (key i j) row x (hg i row hr) hx).1
 ·exact (Classical.choose_spec (key i j) row x (hg i row hr) hx).2
theorem jvn {x:AV} {e:Option β} {f:Nat->Option β} {r:β} (h:qee x e f=some r):(x=.s .nilMap/\e=some r)∨∃ b,x=.s (.map b)/\f b=some r:=by
 obtain ⟨s,rfl,h⟩:=jcm h
 cases s with
 | map b=>exact .inr ⟨b,rfl,h⟩
 | nilMap=>exact .inl ⟨rfl,h⟩
 | _=>cases h
theorem jdz {x:AV} {f:FuncId->List (Nat×Nat)->Option β} {r:β} (h:jvf x f=some r):∃ g cs,x=.s (.func g cs)/\f g cs=some r:=by
 obtain ⟨s,rfl,h⟩:=jcm h
 cases s with
 | func g cs=>exact ⟨g,cs,rfl,h⟩
 | _=>cases h
theorem jex {x:AV} {n:Nat} {f:Nat->Option β} {r:β} (h:jix x n f=some r):∃ k,∃ m:Nat,x=.s (.int k m)/\m<n/\f m=some r:=by
 obtain ⟨k,i,rfl,h⟩:=jdo h
 cases i with
 | ofNat m =>
  obtain ⟨h1,h2⟩:=jae.1 h
  exact ⟨k,m,rfl,f0m h1,h2⟩
 | negSucc m=>cases h
theorem je5 {x:AV} {f:Nat->Option β} {r:β} (h:qcb x f=some r):∃ m:Nat,x=.s (.int .i64 m)/\f m=some r:=by
 obtain ⟨k,i,rfl,h⟩:=jdo h
 obtain ⟨h1,h2⟩:=jae.1 h
 cases i with
 | ofNat m=>exact ⟨m,by rw [je4 h1]<;>rfl,h2⟩
 | negSucc m=>cases h2
theorem j0a {v:SV} {f:Sx->Option β} {r:β} (h:vSx v f=some r):∃ e,(∀ A φ x,cS A φ v x->x=.int .i64 (den A e))/\f e=some r:=by
 cases v with
 | int k n =>
  obtain ⟨h1,h2⟩:=jae.1 h
  exact ⟨_,fun A φ x hx=>by rw [je4 h1] at hx;exact hx,h2⟩
 | sym e=>exact ⟨e,fun A φ x hx=>hx,h⟩
 | _=>cases h
theorem jqt {e:Sx} {f:Int->Option β} {r:β} (h:qed e f=some r):∃ n,e=.lit n/\f n=some r:=by
 cases e with
 | lit n=>exact ⟨n,rfl,h⟩
 | _=>cases h
end
section
variable {P:Program} {w:World} {A:Nat->Int} {φ:Phi}
def cBO:BO->BinOp
 | .add=>.add | .sub=>.sub | .mul=>.mul | .quo=>.quo | .rem=>.rem | .eq=>.eql | .ne=>.neq | .lt=>.lss | .le=>.leq | .gt=>.gtr | .ge=>.geq
 | .and=>.and | .or=>.or | .andNot=>.andNot | .shl=>.shl | .shr=>.shr
theorem j4f {op:BinOp} {o:BO} (h:qql op=some o):op=cBO o:=by
 cases op<;>simp [qql] at h<;>subst h<;>rfl
theorem jjs {k:IntKind} {n:Int} (h:j3x k n=some v):v=.s (.int k n)/\k.wrap n=n:=by
 obtain ⟨h1,h2⟩:=jae.1 h
 exact ⟨(Option.some.inj h2).symm,jjp h1⟩
theorem jnn {k:IntKind} {n:Int} (h:j9s k n=some v):v=.s (.int k (k.wrap n)):=by
 have h':oif (inR k n) (some (AV.s (.int k n))) (oif (jne k) (some (.s (.int k (IntKind.wrap .i64 n)))) none)=some v:=h
 rw [jat] at h'
 split at h'
 ·rename_i h1;cases h';rw [jjp h1]
 ·obtain ⟨h1,h2⟩:=jae.1 h'
  cases h2
  rw [je4 h1]
theorem j0b {f:Nat->Nat->Option AV} (h:nn2 a b f=some v):∃ m n:Nat,a=m/\b=n/\f m n=some v:=by
 cases a with
 | ofNat m=>cases b with
  | ofNat n=>exact ⟨m,n,rfl,rfl,h⟩
  | negSucc n=>cases h
 | negSucc m=>cases h
theorem jr6 {f g:Nat->Nat->Option AV} (h:nn3 a b f g=some v):∃ m n:Nat,b=n/\((a=m/\f m n=some v)∨(a=Int.negSucc m/\g m n=some v)):=by
 cases a with
 | ofNat m=>cases b with
  | ofNat n=>exact ⟨m,n,rfl,.inl ⟨rfl,h⟩⟩
  | negSucc n=>cases h
 | negSucc m=>cases b with
  | ofNat n=>exact ⟨m,n,rfl,.inr ⟨rfl,h⟩⟩
  | negSucc n=>cases h
theorem jno (h:inR .i64 (Int.negSucc m)=true):m<9223372036854775808:=by
 rcases jdh h with ⟨_,a,b⟩ | ⟨e,_⟩ | ⟨e,_⟩
 ·omega
 ·cases e
 ·cases e
theorem qcd:BitVec.ofInt 64 (Int.negSucc m) = ~~~ BitVec.ofNat 64 m:=by
 apply BitVec.eq_of_toInt_eq
 rw [BitVec.toInt_ofInt,BitVec.toInt_not,BitVec.toNat_ofNat]
 have h:(2:Int) ^ 64=18446744073709551616:=by decide
 have h2:(2:Nat) ^ 64=18446744073709551616:=by decide
 rw [h,h2,Int.bmod_def,Int.bmod_def]
 split<;>split<;>omega
theorem jhp {k:IntKind} (h:inR k (.ofNat m)=true):m<2 ^ k.bits/\(BitVec.ofInt k.bits (m:Int)).toNat=m/\(∀ l:Nat,l<=m->k.wrap l=l):=by
 rcases jdh h with ⟨rfl,h1,h2⟩ | ⟨rfl,h1,h2⟩ | ⟨rfl,h1,h2⟩ <;>
  (refine ⟨by simp [IntKind.bits] at *;omega,by simp [IntKind.bits,BitVec.toNat_ofInt] at *;omega,fun l hl=>?_⟩;simp [IntKind.wrap,IntKind.bits,IntKind.signed] at *;omega)
theorem jr7 {k:IntKind} {n:Nat} (h:j9t k n=true):min n k.bits=n:=by
 unfold j9t at h
 simp only [jat] at h
 split at h
 ·rename_i h1;have:=f0m h1;cases k<;>simp [IntKind.bits]<;>omega
 ·split at h
  ·rename_i h2
   have:=f0m h2
   split at h
   ·rename_i h3;rw [je4 h3];simp [IntKind.bits];omega
   ·rw [j4d h];simp [IntKind.bits];omega
  ·cases h
theorem jhq {n:Nat} (x y:BitVec n):(x &&& ~~~y).toNat=x.toNat ^^^ (x.toNat &&& y.toNat):=by
 have:x &&& ~~~y=x ^^^ (x &&& y):=by
  apply BitVec.eq_of_getLsbD_eq
  intro i hi
  simp only [BitVec.getLsbD_and,BitVec.getLsbD_not,BitVec.getLsbD_xor,hi,decide_true,Bool.true_and]
  cases x.getLsbD i<;>cases y.getLsbD i<;>rfl
 rw [this,BitVec.toNat_xor,BitVec.toNat_and]
theorem qmi {k:IntKind} {n:Nat} (h1:inR k (.ofNat m)=true) (h2:inR k (.ofNat n)=true):k.wrap ((m ||| n:Nat):Int)=((m ||| n:Nat):Int):=by
 rcases jdh h1 with ⟨rfl,a1,a2⟩ | ⟨rfl,a1,a2⟩ | ⟨rfl,a1,a2⟩ <;>
 rcases jdh h2 with ⟨e,b1,b2⟩ | ⟨e,b1,b2⟩ | ⟨e,b1,b2⟩<;>first | (cases e;done) | skip
 ·have:=Nat.or_lt_two_pow (x:=m) (y:=n) (n:=63) (by simp at *;omega) (by simp at *;omega)
  simp [IntKind.wrap,IntKind.bits,IntKind.signed] at *;omega
 ·have:=Nat.or_lt_two_pow (x:=m) (y:=n) (n:=8) (by simp at *;omega) (by simp at *;omega)
  simp [IntKind.wrap,IntKind.bits,IntKind.signed] at *;omega
 ·have:=Nat.or_lt_two_pow (x:=m) (y:=n) (n:=64) (by simp at *;omega) (by simp at *;omega)
  simp [IntKind.wrap,IntKind.bits,IntKind.signed] at *;omega
theorem jnp {o:BO} {k k':IntKind} (h:jve o k a b=some v) (hk:k=k'∨shk o=true) (t:TypeId) :
 ∃ rv,(Go.binOp (cBO o) t (.int k a) (.int k' b)).run P w=.ok rv w/\cV A φ v rv:=by
 cases o
 case add=>obtain rfl:=hk.resolve_right (by intro h;cases h);obtain rfl:=jnn (show j9s k (qb7 a b)=some v from h);exact ⟨_,by simp [Go.binOp,cBO,Op.intArith]<;>rfl,by rw [jr2];rfl⟩
 case sub=>obtain rfl:=hk.resolve_right (by intro h;cases h);obtain rfl:=jnn (show j9s k (a - b)=some v from h);exact ⟨_,by simp [Go.binOp,cBO,Op.intArith]<;>rfl,rfl⟩
 case mul=>obtain rfl:=hk.resolve_right (by intro h;cases h);obtain rfl:=jnn (show j9s k (a*b)=some v from h);exact ⟨_,by simp [Go.binOp,cBO,Op.intArith]<;>rfl,rfl⟩
 case quo =>
  obtain rfl:=hk.resolve_right (by intro h;cases h)
  have h':oif (ieq b 0) none (j3x k (a.tdiv b))=some v:=h
  rw [jat] at h'
  split at h'
  ·cases h'
  ·rename_i h0
   rw [jcx] at h0
   have hb:¬ b=0:=by simpa using h0
   obtain ⟨rfl,e⟩:=jjs h'
   exact ⟨_,by simp [Go.binOp,cBO,Op.intDiv,hb,e]<;>rfl,rfl⟩
 case rem =>
  obtain rfl:=hk.resolve_right (by intro h;cases h)
  have h':oif (ieq b 0) none (j3x k (a.tmod b))=some v:=h
  rw [jat] at h'
  split at h'
  ·cases h'
  ·rename_i h0
   rw [jcx] at h0
   have hb:¬ b=0:=by simpa using h0
   obtain ⟨rfl,e⟩:=jjs h'
   exact ⟨_,by simp [Go.binOp,cBO,Op.intDiv,hb]<;>rfl,rfl⟩
 case eq=>obtain rfl:=hk.resolve_right (by intro h;cases h);cases (show some (AV.s (.bool (ieq a b)))=some v from h);exact ⟨_,by simp [Go.binOp,cBO,Op.intCmp]<;>rfl,by rw [jcx];first | rfl | exact congrArg _ (by rw [f1z];simp)⟩
 case ne=>obtain rfl:=hk.resolve_right (by intro h;cases h);cases (show some (AV.s (.bool (jhg (ieq a b))))=some v from h);exact ⟨_,by simp [Go.binOp,cBO,Op.intCmp]<;>rfl,by rw [jcx,jf8];exact congrArg _ (by rw [f1z];simp)⟩
 case lt=>obtain rfl:=hk.resolve_right (by intro h;cases h);cases (show some (AV.s (.bool (jhg (ile b a))))=some v from h);exact ⟨_,by simp [Go.binOp,cBO,Op.intCmp]<;>rfl,by rw [jdn,jf8];exact congrArg _ (by rw [f1z];simp)⟩
 case le=>obtain rfl:=hk.resolve_right (by intro h;cases h);cases (show some (AV.s (.bool (ile a b)))=some v from h);exact ⟨_,by simp [Go.binOp,cBO,Op.intCmp]<;>rfl,by rw [jdn];first | rfl | exact congrArg _ (by rw [f1z];simp)⟩
 case gt=>obtain rfl:=hk.resolve_right (by intro h;cases h);cases (show some (AV.s (.bool (jhg (ile a b))))=some v from h);exact ⟨_,by simp [Go.binOp,cBO,Op.intCmp]<;>rfl,by rw [jdn,jf8];exact congrArg _ (by rw [f1z];simp)⟩
 case ge=>obtain rfl:=hk.resolve_right (by intro h;cases h);cases (show some (AV.s (.bool (ile b a)))=some v from h);exact ⟨_,by simp [Go.binOp,cBO,Op.intCmp]<;>rfl,by rw [jdn];first | rfl | exact congrArg _ (by rw [f1z];simp)⟩
 case and =>
  obtain rfl:=hk.resolve_right (by intro h;cases h)
  obtain ⟨m,n,rfl,⟨rfl,h⟩ | ⟨rfl,h⟩⟩:=jr6 h
  ·obtain ⟨h1,h⟩:=jae.1 h
   obtain ⟨h2,h⟩:=jae.1 h
   cases h
   obtain ⟨a1,a2,a3⟩:=jhp h1
   obtain ⟨b1,b2,b3⟩:=jhp h2
   refine ⟨.int k ((m &&& n:Nat):Int),?_,rfl⟩
   simp only [Go.binOp,cBO,Op.intBits,ne_eq,not_true_eq_false,if_false,Sem.run_pure,BitVec.toNat_and,a2,b2]
   rw [a3 _ Nat.and_le_left]
  ·obtain ⟨h0,h⟩:=jae.1 h
   obtain ⟨h1,h⟩:=jae.1 h
   obtain ⟨h2,h⟩:=jae.1 h
   cases h
   obtain rfl:=je4 h0
   obtain ⟨b1,b2,b3⟩:=jhp h2
   have hm:m<2 ^ 64:=by have:=jno h1;omega
   have e1:(BitVec.ofInt 64 (Int.negSucc m) &&& BitVec.ofInt 64 (n:Int)).toNat=n ^^^ (n &&& m):=by
    rw [qcd,BitVec.and_comm,jhq,BitVec.toNat_ofNat,f3e hm]
    have b2':(BitVec.ofInt 64 (n:Int)).toNat=n:=b2
    rw [b2']
   refine ⟨.int .i64 ((n ^^^ (n &&& m):Nat):Int),?_,rfl⟩
   have hle:n ^^^ (n &&& m)<=n:=by
    have b2':(BitVec.ofInt 64 (n:Int)).toNat=n:=b2
    rw [←e1,BitVec.toNat_and,b2'];exact Nat.and_le_right
   simp only [Go.binOp,cBO,Op.intBits,ne_eq,not_true_eq_false,if_false,Sem.run_pure]
   rw [show IntKind.bits .i64=64 from rfl,e1,b3 _ hle]
 case or =>
  obtain rfl:=hk.resolve_right (by intro h;cases h)
  obtain ⟨m,n,rfl,⟨rfl,h⟩ | ⟨rfl,h⟩⟩:=jr6 h
  ·obtain ⟨h1,h⟩:=jae.1 h
   obtain ⟨h2,h⟩:=jae.1 h
   cases h
   obtain ⟨a1,a2,a3⟩:=jhp h1
   obtain ⟨b1,b2,b3⟩:=jhp h2
   refine ⟨.int k ((m ||| n:Nat):Int),?_,rfl⟩
   simp only [Go.binOp,cBO,Op.intBits,ne_eq,not_true_eq_false,if_false,Sem.run_pure,BitVec.toNat_or,a2,b2]
   rw [qmi h1 h2]
  ·obtain ⟨h0,h⟩:=jae.1 h
   obtain ⟨h1,h⟩:=jae.1 h
   obtain ⟨h2,h⟩:=jae.1 h
   cases h
   obtain rfl:=je4 h0
   obtain ⟨b1,b2,b3⟩:=jhp h2
   have hm:m<2 ^ 63:=by have:=jno h1;omega
   have b2':(BitVec.ofInt 64 (n:Int)).toNat=n:=b2
   have hle:m ^^^ (m &&& n)<=m:=by
    have e:=jhq (BitVec.ofNat 64 m) (BitVec.ofInt 64 (n:Int))
    rw [BitVec.toNat_ofNat,f3e (by omega),b2'] at e
    rw [←e,BitVec.toNat_and,BitVec.toNat_ofNat,f3e (by omega)]
    exact Nat.and_le_left
   have e1:(BitVec.ofInt 64 (Int.negSucc m) ||| BitVec.ofInt 64 (n:Int)).toNat=2 ^ 64 - 1 - (m ^^^ (m &&& n)):=by
    have e2:BitVec.ofInt 64 (Int.negSucc m) ||| BitVec.ofInt 64 (n:Int) = ~~~ (BitVec.ofNat 64 m &&& ~~~ BitVec.ofInt 64 (n:Int)):=by
     rw [qcd]
     apply BitVec.eq_of_getLsbD_eq
     intro i hi
     simp only [BitVec.getLsbD_and,BitVec.getLsbD_not,BitVec.getLsbD_or,hi,decide_true,Bool.true_and]
     cases (BitVec.ofNat 64 m).getLsbD i<;>cases (BitVec.ofInt 64 (n:Int)).getLsbD i<;>rfl
    rw [e2,BitVec.toNat_not,jhq,BitVec.toNat_ofNat,f3e (by omega),b2']
   refine ⟨.int .i64 (Int.negSucc (m ^^^ (m &&& n))),?_,rfl⟩
   simp only [Go.binOp,cBO,Op.intBits,ne_eq,not_true_eq_false,if_false,Sem.run_pure]
   rw [show IntKind.bits .i64=64 from rfl,e1]
   generalize m ^^^ (m &&& n)=q at hle
   have:IntKind.wrap .i64 ((2 ^ 64 - 1 - q:Nat):Int)=Int.negSucc q:=by
    simp only [IntKind.wrap,IntKind.bits,IntKind.signed]
    have h2:(2:Nat) ^ 64=18446744073709551616:=by decide
    have h3:(2:Nat) ^ 63=9223372036854775808:=by decide
    have:Int.negSucc q=-(q:Int) - 1:=by omega
    simp
    omega
   rw [this]
 case andNot =>
  obtain rfl:=hk.resolve_right (by intro h;cases h)
  obtain ⟨m,n,rfl,rfl,h⟩:=j0b h
  obtain ⟨h1,h⟩:=jae.1 h
  obtain ⟨h2,h⟩:=jae.1 h
  cases h
  obtain ⟨a1,a2,a3⟩:=jhp h1
  obtain ⟨b1,b2,b3⟩:=jhp h2
  refine ⟨.int k ((m ^^^ (m &&& n):Nat):Int),?_,rfl⟩
  simp only [Go.binOp,cBO,Op.intBits,ne_eq,not_true_eq_false,if_false,Sem.run_pure,jhq,a2,b2]
  have e:m ^^^ (m &&& n)=(BitVec.ofInt k.bits (m:Int) &&& ~~~ BitVec.ofInt k.bits (n:Int)).toNat:=by rw [jhq,a2,b2]
  have hle:m ^^^ (m &&& n)<=m:=by
   rw [e,BitVec.toNat_and,a2];exact Nat.and_le_left
  rw [a3 _ hle]
 case shl =>
  obtain ⟨m,n,rfl,rfl,h⟩:=j0b h
  obtain ⟨h1,h⟩:=jae.1 h
  obtain ⟨rfl,e⟩:=jjs h
  have hm:=jr7 h1
  refine ⟨_,?_,rfl⟩
  have e':k.wrap ((m:Int)*2 ^ n)=Int.ofNat (Nat.mul m (Nat.pow 2 n)):=by
   have:((m:Int)*2 ^ n)=Int.ofNat (Nat.mul m (Nat.pow 2 n)):=by
    have:Int.ofNat (Nat.mul m (Nat.pow 2 n))=((m*2 ^ n:Nat):Int):=rfl
    rw [this,Int.natCast_mul,f28];rfl
   rw [this];exact e
  have hn:¬ ((n:Int)<0):=by omega
  simp only [Go.binOp,cBO,Op.shift,hn,if_false,f12,hm,Sem.run_pure,e']
 case shr =>
  obtain ⟨m,n,rfl,⟨rfl,h⟩ | ⟨rfl,h⟩⟩:=jr6 h
  ·obtain ⟨h1,h⟩:=jae.1 h
   cases h
   have hm:=jr7 h1
   refine ⟨_,?_,rfl⟩
   have e':(m:Int).fdiv (2 ^ n)=Int.ofNat (Nat.div m (Nat.pow 2 n)):=by
    rw [Int.fdiv_eq_ediv_of_nonneg _ (by exact Int.le_of_lt (Int.pow_pos (by decide)))]
    have:Int.ofNat (Nat.div m (Nat.pow 2 n))=((m / 2 ^ n:Nat):Int):=rfl
    rw [this,Int.natCast_ediv,f28];rfl
   have hn:¬ ((n:Int)<0):=by omega
   simp only [Go.binOp,cBO,Op.shift,hn,if_false,f12,hm,Sem.run_pure,e']
  ·obtain ⟨h1,h⟩:=jae.1 h
   cases h
   have hm:=jr7 h1
   refine ⟨_,?_,rfl⟩
   have e':(Int.negSucc m).fdiv (2 ^ n)=Int.negSucc (Nat.div m (Nat.pow 2 n)):=by
    obtain ⟨q,hq⟩:∃ q,2 ^ n=q+1:=⟨2 ^ n - 1,by have:=Nat.two_pow_pos n;omega⟩
    have h2:(2:Int) ^ n=((q+1:Nat):Int):=by rw [←hq,f28];rfl
    have h3:Nat.pow 2 n=q+1:=hq
    rw [h2,h3];rfl
   have hn:¬ ((n:Int)<0):=by omega
   simp only [Go.binOp,cBO,Op.shift,hn,if_false,f12,hm,Sem.run_pure,e']
theorem j0c {l h:Int} {p:Int×Int} (k:rng l h=some p):p=(l,h)/\-9223372036854775808<=l/\h<=9223372036854775807:=by
 obtain ⟨h1,h2⟩:=jae.1 k
 obtain ⟨h3,h4⟩:=jae.1 h2
 cases h4
 rcases jdh h1 with ⟨_,a,_⟩ | ⟨e,_⟩ | ⟨e,_⟩
 ·rcases jdh h3 with ⟨_,_,b⟩ | ⟨e,_⟩ | ⟨e,_⟩
  ·exact ⟨rfl,a,b⟩
  ·cases e
  ·cases e
 ·cases e
 ·cases e
theorem jgm:∀ (e:Sx) {p:Int×Int},itv e=some p->p.1<=den A e/\den A e<=p.2
 | .arg i,p,h=>by cases h
 | .lit n,p,h=>by
  cases (show some (n,n)=some p from h)
  exact ⟨Int.le_refl _,Int.le_refl _⟩
 | .bnd i m,p,h=>by
  cases (show some (Int.ofNat 0,Int.ofNat m)=some p from h)
  simp only [den]
  split
  ·rename_i h1;exact h1
  ·exact ⟨Int.le_refl _,Int.natCast_nonneg m⟩
 | .op o a b,p,h=>by
  cases o
  case add =>
   obtain ⟨p1,h1,h2⟩:=jab.1 (show ob (itv a) (fun p=>ob (itv b) (fun q=>rng (qb7 p.1 q.1) (qb7 p.2 q.2)))=some p from h)
   obtain ⟨p2,h3,h4⟩:=jab.1 h2
   obtain ⟨rfl,h5,h6⟩:=j0c h4
   have ia:=jgm a h1
   have ib:=jgm b h3
   rw [jr2] at h5 h6
   have e:IntKind.i64.wrap (den A a+den A b)=den A a+den A b:=by
    simp [IntKind.wrap,IntKind.bits,IntKind.signed];omega
   simp only [den,e,jr2]
   omega
  case sub =>
   obtain ⟨p1,h1,h2⟩:=jab.1 (show ob (itv a) (fun p=>ob (itv b) (fun q=>rng (p.1 - q.2) (p.2 - q.1)))=some p from h)
   obtain ⟨p2,h3,h4⟩:=jab.1 h2
   obtain ⟨rfl,h5,h6⟩:=j0c h4
   have ia:=jgm a h1
   have ib:=jgm b h3
   have e:IntKind.i64.wrap (den A a - den A b)=den A a - den A b:=by
    simp [IntKind.wrap,IntKind.bits,IntKind.signed];omega
   simp only [den,e]
   omega
  all_goals cases h
theorem jd0 {a b:Sx} {t:Bool} (h:jhi a b=some t):t=decide (den A a<=den A b):=by
 obtain ⟨p,h1,h2⟩:=jab.1 h
 obtain ⟨q,h3,h4⟩:=jab.1 h2
 have ia:=jgm (A:=A) a h1
 have ib:=jgm (A:=A) b h3
 rw [jat,jdn] at h4
 split at h4
 ·rename_i h5
  cases h4
  have h5':=of_decide_eq_true h5
  exact (decide_eq_true (by omega)).symm
 ·rw [jat,jdn] at h4
  split at h4
  ·cases h4
  ·rename_i h6
   cases h4
   have h6':¬ p.1<=q.2:=fun k=>h6 (decide_eq_true k)
   exact (decide_eq_false (by omega)).symm
theorem jnq {a b:Sx} (h:jrx a b=true):den A a≠den A b:=by
 intro e
 unfold jrx at h
 have l1:∀ t,jhi a b=some t->t=true:=fun t k=>by rw [jd0 (A:=A) k];exact decide_eq_true (by omega)
 have l2:∀ t,jhi b a=some t->t=true:=fun t k=>by rw [jd0 (A:=A) k];exact decide_eq_true (by omega)
 cases h1:jhi a b with
 | none =>
  rw [h1] at h
  cases h2:jhi b a with
  | none=>rw [h2] at h;cases h
  | some t=>rw [h2,l2 t h2] at h;cases h
 | some t =>
  rw [h1,l1 t h1] at h
  cases h2:jhi b a with
  | none=>rw [h2] at h;cases h
  | some t=>rw [h2,l2 t h2] at h;cases h
theorem jnr {o:BO} {e e':Sx} (h:jvg o e e'=some v) (t:TypeId) :
 ∃ rv,(Go.binOp (cBO o) t (.int .i64 (den A e)) (.int .i64 (den A e'))).run P w=.ok rv w/\cV A φ v rv:=by
 cases o
 case add=>cases (show some (AV.s (.sym (.op .add e e')))=some v from h);exact ⟨_,by simp [Go.binOp,cBO,Op.intArith]<;>rfl,rfl⟩
 case sub=>cases (show some (AV.s (.sym (.op .sub e e')))=some v from h);exact ⟨_,by simp [Go.binOp,cBO,Op.intArith]<;>rfl,rfl⟩
 case mul=>cases (show some (AV.s (.sym (.op .mul e e')))=some v from h);exact ⟨_,by simp [Go.binOp,cBO,Op.intArith]<;>rfl,rfl⟩
 case quo =>
  obtain ⟨n,rfl,h⟩:=jqt h
  rw [jat] at h
  split at h
  ·cases h
  ·rename_i h0
   rw [jcx] at h0
   have hb:¬ n=0:=by simpa using h0
   cases h
   exact ⟨_,by simp [Go.binOp,cBO,Op.intDiv,den,hb]<;>rfl,rfl⟩
 case rem =>
  obtain ⟨n,rfl,h⟩:=jqt h
  rw [jat] at h
  split at h
  ·cases h
  ·rename_i h0
   rw [jcx] at h0
   have hb:¬ n=0:=by simpa using h0
   cases h
   exact ⟨_,by simp [Go.binOp,cBO,Op.intDiv,den,hb]<;>rfl,rfl⟩
 case eq =>
  rw [show jvg .eq e e'=oif (j3w e e') (some (.s (.bool true))) (oif (jrx e e') (some (.s (.bool false))) none) from rfl,jat] at h
  split at h
  ·rename_i h1
   cases h
   rw [jky _ _ h1]
   exact ⟨_,by simp [Go.binOp,cBO,Op.intCmp]<;>rfl,rfl⟩
  ·obtain ⟨h1,h⟩:=jae.1 h
   cases h
   have h2:=jnq (A:=A) h1
   exact ⟨.bool false,by simp [Go.binOp,cBO,Op.intCmp,h2],rfl⟩
 case ne =>
  rw [show jvg .ne e e'=oif (j3w e e') (some (.s (.bool false))) (oif (jrx e e') (some (.s (.bool true))) none) from rfl,jat] at h
  split at h
  ·rename_i h1
   cases h
   rw [jky _ _ h1]
   exact ⟨_,by simp [Go.binOp,cBO,Op.intCmp]<;>rfl,rfl⟩
  ·obtain ⟨h1,h⟩:=jae.1 h
   cases h
   have h2:=jnq (A:=A) h1
   exact ⟨.bool true,by simp [Go.binOp,cBO,Op.intCmp,h2],rfl⟩
 case lt =>
  obtain ⟨t,h1,h2⟩:=jab.1 (show ob (jhi e' e) (fun t=>some (.s (.bool (jhg t))))=some v from h)
  cases h2
  rw [jd0 (A:=A) h1,jf8]
  refine ⟨.bool (decide (den A e<den A e')),by simp [Go.binOp,cBO,Op.intCmp],?_⟩
  show Value.bool _=.bool _
  congr 1
  rw [f1z]
  simp
 case le =>
  obtain ⟨t,h1,h2⟩:=jab.1 (show ob (jhi e e') (fun t=>some (.s (.bool t)))=some v from h)
  cases h2
  rw [jd0 (A:=A) h1]
  exact ⟨.bool (decide (den A e<=den A e')),by simp [Go.binOp,cBO,Op.intCmp],rfl⟩
 case gt =>
  obtain ⟨t,h1,h2⟩:=jab.1 (show ob (jhi e e') (fun t=>some (.s (.bool (jhg t))))=some v from h)
  cases h2
  rw [jd0 (A:=A) h1,jf8]
  refine ⟨.bool (decide (den A e>den A e')),by simp [Go.binOp,cBO,Op.intCmp],?_⟩
  show Value.bool _=.bool _
  congr 1
  rw [f1z]
  simp
 case ge =>
  obtain ⟨t,h1,h2⟩:=jab.1 (show ob (jhi e' e) (fun t=>some (.s (.bool t)))=some v from h)
  cases h2
  rw [jd0 (A:=A) h1]
  exact ⟨.bool (decide (den A e≥den A e')),by simp [Go.binOp,cBO,Op.intCmp],rfl⟩
 all_goals cases h
theorem jxy {o:BO} {a b:SV} {x y:Value} (h:jej o a b=some v) (hx:cS A φ a x) (hy:cS A φ b y) (t:TypeId) :
 ∃ rv,(Go.binOp (cBO o) t x y).run P w=.ok rv w/\cV A φ v rv:=by
 cases a with
 | int k m =>
  cases (show x=.int k m from hx)
  cases b with
  | int k' n =>
   cases (show y=.int k' n from hy)
   have h':oif (Nat.beq (ikn k) (ikn k')) (jve o k m n) (oif (shk o) (jve o k m n) none)=some v:=h
   rw [jat] at h'
   split at h'
   ·rename_i h1;exact jnp h' (.inl (jkx h1)) t
   ·obtain ⟨h1,h'⟩:=jae.1 h';exact jnp h' (.inr h1) t
  | sym e =>
   cases (show y=.int .i64 (den A e) from hy)
   obtain ⟨h1,h'⟩:=jae.1 (show oif (jne k) (jvg o (.lit m) e) none=some v from h)
   rw [je4 h1]
   exact jnr h' t
  | _=>cases h
 | sym e =>
  cases (show x=.int .i64 (den A e) from hx)
  obtain ⟨e',h1,h2⟩:=j0a (show vSx b (fun e'=>jvg o e e')=some v from h)
  cases h1 _ _ _ hy
  exact jnr h2 t
 | _=>cases h
end
end Go.Proofs.Ytehhjbfmjdlcjaa.Ev
