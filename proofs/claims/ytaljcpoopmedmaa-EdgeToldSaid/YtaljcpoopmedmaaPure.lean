/- The interpreter's operations on values against the model's. No program in sight. -/
import Derived.Test.YtaljcpoopmedmaaRel
namespace Go.Proofs.Ytaljcpoopmedmaa.Ev
open Go
set_option linter.all false
def qoo:TypeDesc->Bool
 | .struct _=>true
 | .array _ _=>true
 | _=>false
def j35 (P:Program) (d:TypeDesc):TK->Prop
 | .int k=>d=.int k
 | .bool=>d=.bool
 | .slice e=>d=.slice e
 | .array n e=>d=.array n e
 | .struct fs=>∃ fields:Array Field,d=.struct fields/\fs=fields.toList.map (fun f=>(f.offset,f.type))/\∀ f∈fields.toList,∃ i,P.info? f.type=some i
 | .map k e=>d=.map k e
 | .ptr e=>d=.pointer e
 | .str=>d=.string
 | .other=>True
def jgn (P:Program) (g:TypeId->Option (List Bool)):List Field->Nat->Option (List Bool)
 | [],_=>some []
 | f::r,off=>if f.name="_" then none else if f.offset≠off then none else match g f.type,P.info? f.type with
  | some s,some i=>if i.size=s.length/\s.length≠0 then (match jgn P g r (off+s.length) with
   | some l=>some (s++l)
   | none=>none) else none
  | _,_=>none
def jge (P:Program):Nat->TypeId->Option (List Bool)
 | 0,_=>none
 | d+1,t=>match P.underlying t with
  | some .bool=>some [true]
  | some (.int _)=>some [false]
  | some (.struct fs)=>if P.stoodInHeld t then none else jgn P (jge P d) fs.toList 0
  | _=>none
def jzz:Value->Bool
 | .agg _=>true
 | _=>false
structure TIok (P:Program) (t:TypeId) (ti:TI):Prop where
 ex:∃ i z d,P.info? t=some i/\i.zero=some z/\i.size=ti.size/\i.bytes=ti.bytes/\(∀ A φ,All2 (cS A φ) ti.zero z.cells.toList)/\P.underlying t=some d/\ti.agg=qoo d/\j35 P d ti.kind/\ti.zero.length=ti.size
 eq:∀ sig,ti.eq=some sig->jge P 10000 t=some sig/\P.eqGuardType P.depth t=false
 shape:∀ i z,P.info? t=some i->i.zero=some z->jzz z=ti.agg
def Tys (P:Program) (T:Tr TI):Prop:=∀ t ti,jhp T t=some ti->TIok P t ti
section
variable {P:Program} {w:World} {t:TypeId} {ti:TI}
theorem TIok.run_size (k:TIok P t ti):(sizeOf t).run P w=.ok ti.size w:=by
 obtain ⟨i,z,d,h1,h2,h3,_⟩:=k.ex
 simp [sizeOf,typeInfo,h1,h3]
theorem TIok.run_zero (k:TIok P t ti):∃ z,(zeroValue t).run P w=.ok z w/\(∀ A φ,All2 (cS A φ) ti.zero z.cells.toList)/\ti.zero.length=ti.size:=by
 obtain ⟨i,z,d,h1,h2,h3,h4,h5,_,_,_,h6⟩:=k.ex
 exact ⟨z,by simp [zeroValue,typeInfo,h1,h2],h5,h6⟩
theorem TIok.run_agg (k:TIok P t ti):(isAgg t).run P w=.ok ti.agg w:=by
 obtain ⟨i,z,d,h1,h2,h3,h4,h5,h6,h7,_⟩:=k.ex
 simp only [isAgg,Sem.run_bind,run_underlying h6,Result.andThen_ok,h7]
 cases d<;>rfl
theorem TIok.und (k:TIok P t ti):∃ d,P.underlying t=some d/\j35 P d ti.kind:=by
 obtain ⟨i,z,d,_,_,_,_,_,h6,_,h7,_⟩:=k.ex
 exact ⟨d,h6,h7⟩
theorem jbu {T:Tr TI} (hT:Tys P T) {x:TypeId×TI} (h:jca T t=some x):P.underlying t=some (.slice x.1)/\TIok P x.1 x.2/\x.2.size≠0:=by
 unfold jca at h
 split at h
 ·rename_i ti hti
  split at h
  ·rename_i e he
   split at h
   ·rename_i z hz
    cases hb:Nat.beq z.size 0 with
    | true=>rw [hb] at h;cases h
    | false =>
     rw [hb] at h
     cases h
     obtain ⟨d,h1,h2⟩:=(hT t ti hti).und
     rw [he] at h2
     exact ⟨h1.trans (congrArg some h2),hT _ _ hz,fun e=>by simp at e;rw [e] at hb;cases hb⟩
   ·cases h
  ·cases h
 ·cases h
theorem jhu {T:Tr TI} (hT:Tys P T) {x:Nat×TI} (h:jky T t=some x):∃ e,P.underlying t=some (.array x.1 e)/\TIok P e x.2/\x.2.size≠0:=by
 unfold jky at h
 split at h
 ·rename_i ti hti
  split at h
  ·rename_i n e he
   split at h
   ·rename_i z hz
    cases hb:Nat.beq z.size 0 with
    | true=>rw [hb] at h;cases h
    | false =>
     rw [hb] at h
     cases h
     obtain ⟨d,h1,h2⟩:=(hT t ti hti).und
     rw [he] at h2
     exact ⟨e,h1.trans (congrArg some h2),hT _ _ hz,fun e=>by simp at e;rw [e] at hb;cases hb⟩
   ·cases h
  ·cases h
 ·cases h
theorem jxo {T:Tr TI} (hT:Tys P T) (h:jqw T t=true):P.underlying t=some .string:=by
 unfold jqw at h
 split at h
 ·rename_i ti hti
  split at h
  ·rename_i he
   obtain ⟨d,h1,h2⟩:=(hT t ti hti).und
   rw [he] at h2
   exact h1.trans (congrArg some h2)
  ·cases h
 ·cases h
theorem jjx {T:Tr TI} (hT:Tys P T) {f:Nat} {x:Nat×TI} (h:jm2 T t f=some x):∃ fields:Array Field,∃ fd:Field,P.underlying t=some (.struct fields)/\fields[f]?=some fd/\fd.offset=x.1/\TIok P fd.type x.2/\x.2.size≠0:=by
 unfold jm2 at h
 split at h
 ·rename_i ti hti
  split at h
  ·rename_i fs he
   split at h
   ·rename_i p hp
    split at h
    ·rename_i z hz
     cases hb:Nat.beq z.size 0 with
     | true=>rw [hb] at h;cases h
     | false =>
      rw [hb] at h
      cases h
      obtain ⟨d,h1,h2⟩:=(hT t ti hti).und
      rw [he] at h2
      obtain ⟨fields,rfl,rfl,_⟩:=h2
      rw [List.getElem?_map] at hp
      obtain ⟨fd,hfd,rfl⟩:=Option.map_eq_some_iff.1 hp
      exact ⟨fields,fd,h1,by simpa using hfd,rfl,hT _ _ hz,fun e=>by simp at e;rw [e] at hb;cases hb⟩
    ·cases h
   ·cases h
  ·cases h
 ·cases h
end
section
variable {β:Type} {A:Nat->Int} {φ:Phi}
theorem jz0 {e:Option β} {x:AV} {f:SV->Option β} {r:β} (h:svc e x f=some r):(∃ s,x=.s s/\f s=some r)∨(x=.undef/\e=some r):=by
 cases x with
 | s x=>exact .inl ⟨x,rfl,h⟩
 | undef=>exact .inr ⟨rfl,h⟩
 | _=>cases h
theorem jco {x:AV} {f:SV->Option β} {r:β} (h:svc none x f=some r):∃ s,x=.s s/\f s=some r :=
 (jz0 h).elim id (fun h=>by cases h.2)
theorem jjy {v:SV} {f:IntKind->Int->Option β} {r:β} (h:j88 v f=some r):∃ k n,v=.int k n/\f k n=some r:=by
 cases v with
 | int k n=>exact ⟨k,n,rfl,h⟩
 | _=>cases h
theorem jdp {x:AV} {f:IntKind->Int->Option β} {r:β} (h:jm0 x f=some r):∃ k n,x=.s (.int k n)/\f k n=some r:=by
 obtain ⟨s,rfl,h⟩:=jco h
 obtain ⟨k,n,rfl,h⟩:=jjy h
 exact ⟨k,n,rfl,h⟩
theorem jgo {v:SV} {f:Bool->Option β} {r:β} (h:jmp v f=some r):∃ b,v=.bool b/\f b=some r:=by
 cases v with
 | bool b=>exact ⟨b,rfl,h⟩
 | _=>cases h
theorem jd0 {x:AV} {f:Bool->Option β} {r:β} (h:ji3 x f=some r):∃ b,x=.s (.bool b)/\f b=some r:=by
 obtain ⟨s,rfl,h⟩:=jco h
 obtain ⟨b,rfl,h⟩:=jgo h
 exact ⟨b,rfl,h⟩
theorem jgp {x:AV} {f:Nat->Nat->Option β} {r:β} (h:jr3 x f=some r):∃ b o,x=.s (.ptr b o)/\f b o=some r:=by
 obtain ⟨s,rfl,h⟩:=jco h
 cases s with
 | ptr b o=>exact ⟨b,o,rfl,h⟩
 | _=>cases h
theorem jfc {x:AV} {e:Option β} {f:Nat->Nat->Nat->Nat->Bool->Nat->Option β} {r:β} (h:je8 x e f=some r):(x=.s .nilSlice/\e=some r)∨∃ b o n m ex sz,x=.s (.slice b o n m ex sz)/\f b o n m ex sz=some r:=by
 obtain ⟨s,rfl,h⟩:=jco h
 cases s with
 | slice b o n m ex sz=>exact .inr ⟨b,o,n,m,ex,sz,rfl,h⟩
 | nilSlice=>exact .inl ⟨rfl,h⟩
 | _=>cases h
theorem jc3 {x:AV} {f:Nat->Nat->Option β} {g:List SV->Option β} {r:β} (h:je9 x f g=some r):(∃ b o,x=.s (.ptr b o)/\f b o=some r)∨∃ cs,x=.s (.cp cs)/\g cs=some r:=by
 obtain ⟨s,rfl,h⟩:=jco h
 cases s with
 | ptr b o=>exact .inl ⟨b,o,rfl,h⟩
 | cp cs=>exact .inr ⟨cs,rfl,h⟩
 | _=>cases h
theorem jay {x:AV} {e:Option β} {f:Nat->Nat->Nat->Nat->Bool->Nat->Option β} {g:List (List SV)->Option β} {z:Option β} {r:β} (h:jc8 x e f g z=some r) :
 (x=.s .nilSlice/\e=some r)∨(∃ b o n m ex sz,x=.s (.slice b o n m ex sz)/\f b o n m ex sz=some r)∨(∃ rows,x=.s (.lst rows)/\g rows=some r)∨(x=.s .emp/\z=some r):=by
 obtain ⟨s,rfl,h⟩:=jco h
 cases s with
 | slice b o n m ex sz=>exact .inr (.inl ⟨b,o,n,m,ex,sz,rfl,h⟩)
 | nilSlice=>exact .inl ⟨rfl,h⟩
 | lst rows=>exact .inr (.inr (.inl ⟨rows,rfl,h⟩))
 | emp=>exact .inr (.inr (.inr ⟨rfl,h⟩))
 | _=>cases h
theorem jeq {A:Nat->Int} {k:Nat->Option (Array Value)} {rows:List (List SV)} {v:Value} (h:cD A k (.lst rows) v) :
 ∃ ad cap,v=.slice (some ad) rows.length cap/\rows.length<=cap/\(rows=[]∨∃ b o sz cs,k b=some cs/\ad=⟨b,o,none⟩/\(∀ (i:Nat) (row:List SV),rows[i]?=some row->row.length=sz) /\
  ∀ (i j:Nat) (row:List SV) (x:SV),rows[i]?=some row->row[j]?=some x->∃ u,cs[o+i*sz+j]?=some u/\cD A k x u):=by
 cases h with
 | lst0 ad cap=>exact ⟨ad,cap,rfl,Nat.zero_le _,.inl rfl⟩
 | lst _ b o cap sz cs g h1 h2 h3 h4 h5=>exact ⟨_,cap,rfl,h2,.inr ⟨b,o,sz,cs,h1,rfl,h3,fun i j row x hr hx=>⟨_,h4 i j row x hr hx,h5 i j row x hr hx⟩⟩⟩
theorem j9g {A:Nat->Int} {k:Nat->Option (Array Value)} {rows:List (List SV)} {b o sz cap lo n:Nat} {cs:Array Value} (h1:k b=some cs) (h2:rows.length<=cap) (h3:∀ (i:Nat) (row:List SV),rows[i]?=some row->row.length=sz)
 (h4:∀ (i j:Nat) (row:List SV) (x:SV),rows[i]?=some row->row[j]?=some x->∃ u,cs[o+i*sz+j]?=some u/\cD A k x u) (h5:lo+n<=rows.length) :
 cD A k (.lst ((rows.drop lo).take n)) (.slice (some ⟨b,o+lo*sz,none⟩) n (cap - lo)):=by
 have hl:((rows.drop lo).take n).length=n:=by simp;omega
 have hg:∀ (i:Nat) (row:List SV),((rows.drop lo).take n)[i]?=some row->rows[lo+i]?=some row:=fun i row h=>by
  rw [List.getElem?_take] at h
  split at h
  ·rwa [List.getElem?_drop] at h
  ·cases h
 have key:∀ (i j:Nat),∃ u,∀ (row:List SV) (x:SV),rows[lo+i]?=some row->row[j]?=some x->cs[o+(lo+i)*sz+j]?=some u/\cD A k x u:=fun i j=>by
  cases hr:rows[lo+i]? with
  | none=>exact ⟨undef,fun _ _ h=>by cases h⟩
  | some row =>
   cases hx:row[j]? with
   | none=>exact ⟨undef,fun row' x h h'=>by cases h;rw [hx] at h';cases h'⟩
   | some x =>
    obtain ⟨u,a,b⟩:=h4 _ _ _ _ hr hx
    exact ⟨u,fun row' x' h h'=>by cases h;rw [hx] at h';cases h';exact ⟨a,b⟩⟩
 have e:∀ i j,o+lo*sz+i*sz+j=o+(lo+i)*sz+j:=fun i j=>by rw [Nat.add_mul];omega
 rw [show (Value.slice (some ⟨b,o+lo*sz,none⟩) n (cap - lo))=.slice (some ⟨b,o+lo*sz,none⟩) ((rows.drop lo).take n).length (cap - lo) by rw [hl]]
 refine .lst _ b (o+lo*sz) (cap - lo) sz cs (fun i j=>Classical.choose (key i j)) h1 (by rw [hl];omega) (fun i row h=>h3 _ _ (hg i row h)) (fun i j row x hr hx=>?_) (fun i j row x hr hx=>?_)
 ·rw [e];exact (Classical.choose_spec (key i j) row x (hg i row hr) hx).1
 ·exact (Classical.choose_spec (key i j) row x (hg i row hr) hx).2
theorem jvg {x:AV} {e:Option β} {f:Nat->Option β} {r:β} (h:qdn x e f=some r):(x=.s .nilMap/\e=some r)∨∃ b,x=.s (.map b)/\f b=some r:=by
 obtain ⟨s,rfl,h⟩:=jco h
 cases s with
 | map b=>exact .inr ⟨b,rfl,h⟩
 | nilMap=>exact .inl ⟨rfl,h⟩
 | _=>cases h
theorem jd1 {x:AV} {f:FuncId->List (Nat×Nat)->Option β} {r:β} (h:ju8 x f=some r):∃ g cs,x=.s (.func g cs)/\f g cs=some r:=by
 obtain ⟨s,rfl,h⟩:=jco h
 cases s with
 | func g cs=>exact ⟨g,cs,rfl,h⟩
 | _=>cases h
theorem je2 {x:AV} {n:Nat} {f:Nat->Option β} {r:β} (h:ji4 x n f=some r):∃ k,∃ m:Nat,x=.s (.int k m)/\m<n/\f m=some r:=by
 obtain ⟨k,i,rfl,h⟩:=jdp h
 cases i with
 | ofNat m =>
  obtain ⟨h1,h2⟩:=jae.1 h
  exact ⟨k,m,rfl,Nat.le_of_ble_eq_true h1,h2⟩
 | negSucc m=>cases h
theorem jfd {x:AV} {f:Nat->Option β} {r:β} (h:qbk x f=some r):∃ m:Nat,x=.s (.int .i64 m)/\f m=some r:=by
 obtain ⟨k,i,rfl,h⟩:=jdp h
 obtain ⟨h1,h2⟩:=jae.1 h
 cases i with
 | ofNat m=>exact ⟨m,by rw [jfb h1]<;>rfl,h2⟩
 | negSucc m=>cases h2
theorem jz1 {v:SV} {f:Sx->Option β} {r:β} (h:vSx v f=some r):∃ e,(∀ A φ x,cS A φ v x->x=.int .i64 (den A e))/\f e=some r:=by
 cases v with
 | int k n =>
  obtain ⟨h1,h2⟩:=jae.1 h
  exact ⟨_,fun A φ x hx=>by rw [jfb h1] at hx;exact hx,h2⟩
 | sym e=>exact ⟨e,fun A φ x hx=>hx,h⟩
 | _=>cases h
theorem jqy {e:Sx} {f:Int->Option β} {r:β} (h:qdm e f=some r):∃ n,e=.lit n/\f n=some r:=by
 cases e with
 | lit n=>exact ⟨n,rfl,h⟩
 | _=>cases h
end
section
variable {P:Program} {w:World} {A:Nat->Int} {φ:Phi}
def cBO:BO->BinOp
 | .add=>.add | .sub=>.sub | .mul=>.mul | .quo=>.quo | .rem=>.rem | .eq=>.eql | .ne=>.neq | .lt=>.lss | .le=>.leq | .gt=>.gtr | .ge=>.geq
 | .and=>.and | .or=>.or | .andNot=>.andNot | .shl=>.shl | .shr=>.shr
theorem j36 {op:BinOp} {o:BO} (h:qol op=some o):op=cBO o:=by
 cases op<;>simp [qol] at h<;>subst h<;>rfl
theorem jjz {k:IntKind} {n:Int} {v:AV} (h:j3o k n=some v):v=.s (.int k n)/\k.wrap n=n:=by
 obtain ⟨h1,h2⟩:=jae.1 h
 exact ⟨(Option.some.inj h2).symm,jjw h1⟩
theorem jnt {k:IntKind} {n:Int} {v:AV} (h:j85 k n=some v):v=.s (.int k (k.wrap n)):=by
 have h':oif (inR k n) (some (AV.s (.int k n))) (oif (jnk k) (some (.s (.int k (IntKind.wrap .i64 n)))) none)=some v:=h
 rw [jas] at h'
 split at h'
 ·rename_i h1;cases h';rw [jjw h1]
 ·obtain ⟨h1,h2⟩:=jae.1 h'
  cases h2
  rw [jfb h1]
theorem jz2 {a b:Int} {f:Nat->Nat->Option AV} {v:AV} (h:nn2 a b f=some v):∃ m n:Nat,a=m/\b=n/\f m n=some v:=by
 cases a with
 | ofNat m=>cases b with
  | ofNat n=>exact ⟨m,n,rfl,rfl,h⟩
  | negSucc n=>cases h
 | negSucc m=>cases h
theorem jsd {a b:Int} {f g:Nat->Nat->Option AV} {v:AV} (h:nn3 a b f g=some v):∃ m n:Nat,b=n/\((a=m/\f m n=some v)∨(a=Int.negSucc m/\g m n=some v)):=by
 cases a with
 | ofNat m=>cases b with
  | ofNat n=>exact ⟨m,n,rfl,.inl ⟨rfl,h⟩⟩
  | negSucc n=>cases h
 | negSucc m=>cases b with
  | ofNat n=>exact ⟨m,n,rfl,.inr ⟨rfl,h⟩⟩
  | negSucc n=>cases h
theorem jnu {m:Nat} (h:inR .i64 (Int.negSucc m)=true):m<9223372036854775808:=by
 rcases jdi h with ⟨_,a,b⟩ | ⟨e,_⟩ | ⟨e,_⟩
 ·omega
 ·cases e
 ·cases e
theorem qbm {m:Nat}:BitVec.ofInt 64 (Int.negSucc m) = ~~~ BitVec.ofNat 64 m:=by
 apply BitVec.eq_of_toInt_eq
 rw [BitVec.toInt_ofInt,BitVec.toInt_not,BitVec.toNat_ofNat]
 have h:(2:Int) ^ 64=18446744073709551616:=by decide
 have h2:(2:Nat) ^ 64=18446744073709551616:=by decide
 rw [h,h2,Int.bmod_def,Int.bmod_def]
 split<;>split<;>omega
theorem jhv {k:IntKind} {m:Nat} (h:inR k (.ofNat m)=true):m<2 ^ k.bits/\(BitVec.ofInt k.bits (m:Int)).toNat=m/\(∀ l:Nat,l<=m->k.wrap l=l):=by
 rcases jdi h with ⟨rfl,h1,h2⟩ | ⟨rfl,h1,h2⟩ | ⟨rfl,h1,h2⟩ <;>
  (refine ⟨by simp [IntKind.bits] at *;omega,by simp [IntKind.bits,BitVec.toNat_ofInt] at *;omega,fun l hl=>?_⟩;simp [IntKind.wrap,IntKind.bits,IntKind.signed] at *;omega)
theorem jse {k:IntKind} {n:Nat} (h:j86 k n=true):min n k.bits=n:=by
 unfold j86 at h
 simp only [jas] at h
 split at h
 ·rename_i h1;have:=Nat.le_of_ble_eq_true h1;cases k<;>simp [IntKind.bits]<;>omega
 ·split at h
  ·rename_i h2
   have:=Nat.le_of_ble_eq_true h2
   split at h
   ·rename_i h3;rw [jfb h3];simp [IntKind.bits];omega
   ·rw [j34 h];simp [IntKind.bits];omega
  ·cases h
theorem jhw {n:Nat} (x y:BitVec n):(x &&& ~~~y).toNat=x.toNat ^^^ (x.toNat &&& y.toNat):=by
 have:x &&& ~~~y=x ^^^ (x &&& y):=by
  apply BitVec.eq_of_getLsbD_eq
  intro i hi
  simp only [BitVec.getLsbD_and,BitVec.getLsbD_not,BitVec.getLsbD_xor,hi,decide_true,Bool.true_and]
  cases x.getLsbD i<;>cases y.getLsbD i<;>rfl
 rw [this,BitVec.toNat_xor,BitVec.toNat_and]
theorem qkr {k:IntKind} {m n:Nat} (h1:inR k (.ofNat m)=true) (h2:inR k (.ofNat n)=true):k.wrap ((m ||| n:Nat):Int)=((m ||| n:Nat):Int):=by
 rcases jdi h1 with ⟨rfl,a1,a2⟩ | ⟨rfl,a1,a2⟩ | ⟨rfl,a1,a2⟩ <;>
 rcases jdi h2 with ⟨e,b1,b2⟩ | ⟨e,b1,b2⟩ | ⟨e,b1,b2⟩<;>first | (cases e;done) | skip
 ·have:=Nat.or_lt_two_pow (x:=m) (y:=n) (n:=63) (by simp at *;omega) (by simp at *;omega)
  simp [IntKind.wrap,IntKind.bits,IntKind.signed] at *;omega
 ·have:=Nat.or_lt_two_pow (x:=m) (y:=n) (n:=8) (by simp at *;omega) (by simp at *;omega)
  simp [IntKind.wrap,IntKind.bits,IntKind.signed] at *;omega
 ·have:=Nat.or_lt_two_pow (x:=m) (y:=n) (n:=64) (by simp at *;omega) (by simp at *;omega)
  simp [IntKind.wrap,IntKind.bits,IntKind.signed] at *;omega
theorem jnv {o:BO} {k k':IntKind} {a b:Int} {v:AV} (h:ju7 o k a b=some v) (hk:k=k'∨shk o=true) (t:TypeId) :
 ∃ rv,(Go.binOp (cBO o) t (.int k a) (.int k' b)).run P w=.ok rv w/\cV A φ v rv:=by
 cases o
 case add=>obtain rfl:=hk.resolve_right (by intro h;cases h);obtain rfl:=jnt (show j85 k (qbg a b)=some v from h);exact ⟨_,by simp [Go.binOp,cBO,Op.intArith]<;>rfl,by rw [jr9];rfl⟩
 case sub=>obtain rfl:=hk.resolve_right (by intro h;cases h);obtain rfl:=jnt (show j85 k (a - b)=some v from h);exact ⟨_,by simp [Go.binOp,cBO,Op.intArith]<;>rfl,rfl⟩
 case mul=>obtain rfl:=hk.resolve_right (by intro h;cases h);obtain rfl:=jnt (show j85 k (a*b)=some v from h);exact ⟨_,by simp [Go.binOp,cBO,Op.intArith]<;>rfl,rfl⟩
 case quo =>
  obtain rfl:=hk.resolve_right (by intro h;cases h)
  have h':oif (ieq b 0) none (j3o k (a.tdiv b))=some v:=h
  rw [jas] at h'
  split at h'
  ·cases h'
  ·rename_i h0
   rw [jcy] at h0
   have hb:¬ b=0:=by simpa using h0
   obtain ⟨rfl,e⟩:=jjz h'
   exact ⟨_,by simp [Go.binOp,cBO,Op.intDiv,hb,e]<;>rfl,rfl⟩
 case rem =>
  obtain rfl:=hk.resolve_right (by intro h;cases h)
  have h':oif (ieq b 0) none (j3o k (a.tmod b))=some v:=h
  rw [jas] at h'
  split at h'
  ·cases h'
  ·rename_i h0
   rw [jcy] at h0
   have hb:¬ b=0:=by simpa using h0
   obtain ⟨rfl,e⟩:=jjz h'
   exact ⟨_,by simp [Go.binOp,cBO,Op.intDiv,hb]<;>rfl,rfl⟩
 case eq=>obtain rfl:=hk.resolve_right (by intro h;cases h);cases (show some (AV.s (.bool (ieq a b)))=some v from h);exact ⟨_,by simp [Go.binOp,cBO,Op.intCmp]<;>rfl,by rw [jcy];first | rfl | exact congrArg _ (by rw [Bool.eq_iff_iff];simp)⟩
 case ne=>obtain rfl:=hk.resolve_right (by intro h;cases h);cases (show some (AV.s (.bool (jhm (ieq a b))))=some v from h);exact ⟨_,by simp [Go.binOp,cBO,Op.intCmp]<;>rfl,by rw [jcy,jgd];exact congrArg _ (by rw [Bool.eq_iff_iff];simp)⟩
 case lt=>obtain rfl:=hk.resolve_right (by intro h;cases h);cases (show some (AV.s (.bool (jhm (ile b a))))=some v from h);exact ⟨_,by simp [Go.binOp,cBO,Op.intCmp]<;>rfl,by rw [jdo,jgd];exact congrArg _ (by rw [Bool.eq_iff_iff];simp)⟩
 case le=>obtain rfl:=hk.resolve_right (by intro h;cases h);cases (show some (AV.s (.bool (ile a b)))=some v from h);exact ⟨_,by simp [Go.binOp,cBO,Op.intCmp]<;>rfl,by rw [jdo];first | rfl | exact congrArg _ (by rw [Bool.eq_iff_iff];simp)⟩
 case gt=>obtain rfl:=hk.resolve_right (by intro h;cases h);cases (show some (AV.s (.bool (jhm (ile a b))))=some v from h);exact ⟨_,by simp [Go.binOp,cBO,Op.intCmp]<;>rfl,by rw [jdo,jgd];exact congrArg _ (by rw [Bool.eq_iff_iff];simp)⟩
 case ge=>obtain rfl:=hk.resolve_right (by intro h;cases h);cases (show some (AV.s (.bool (ile b a)))=some v from h);exact ⟨_,by simp [Go.binOp,cBO,Op.intCmp]<;>rfl,by rw [jdo];first | rfl | exact congrArg _ (by rw [Bool.eq_iff_iff];simp)⟩
 case and =>
  obtain rfl:=hk.resolve_right (by intro h;cases h)
  obtain ⟨m,n,rfl,⟨rfl,h⟩ | ⟨rfl,h⟩⟩:=jsd h
  ·obtain ⟨h1,h⟩:=jae.1 h
   obtain ⟨h2,h⟩:=jae.1 h
   cases h
   obtain ⟨a1,a2,a3⟩:=jhv h1
   obtain ⟨b1,b2,b3⟩:=jhv h2
   refine ⟨.int k ((m &&& n:Nat):Int),?_,rfl⟩
   simp only [Go.binOp,cBO,Op.intBits,ne_eq,not_true_eq_false,if_false,Sem.run_pure,BitVec.toNat_and,a2,b2]
   rw [a3 _ Nat.and_le_left]
  ·obtain ⟨h0,h⟩:=jae.1 h
   obtain ⟨h1,h⟩:=jae.1 h
   obtain ⟨h2,h⟩:=jae.1 h
   cases h
   obtain rfl:=jfb h0
   obtain ⟨b1,b2,b3⟩:=jhv h2
   have hm:m<2 ^ 64:=by have:=jnu h1;omega
   have e1:(BitVec.ofInt 64 (Int.negSucc m) &&& BitVec.ofInt 64 (n:Int)).toNat=n ^^^ (n &&& m):=by
    rw [qbm,BitVec.and_comm,jhw,BitVec.toNat_ofNat,Nat.mod_eq_of_lt hm]
    have b2':(BitVec.ofInt 64 (n:Int)).toNat=n:=b2
    rw [b2']
   refine ⟨.int .i64 ((n ^^^ (n &&& m):Nat):Int),?_,rfl⟩
   have hle:n ^^^ (n &&& m)<=n:=by
    have b2':(BitVec.ofInt 64 (n:Int)).toNat=n:=b2
    rw [←e1,BitVec.toNat_and,b2'];exact Nat.and_le_right
   simp only [Go.binOp,cBO,Op.intBits,ne_eq,not_true_eq_false,if_false,Sem.run_pure]
   rw [show IntKind.bits .i64=64 from rfl,e1,b3 _ hle]
 case or =>
  obtain rfl:=hk.resolve_right (by intro h;cases h)
  obtain ⟨m,n,rfl,⟨rfl,h⟩ | ⟨rfl,h⟩⟩:=jsd h
  ·obtain ⟨h1,h⟩:=jae.1 h
   obtain ⟨h2,h⟩:=jae.1 h
   cases h
   obtain ⟨a1,a2,a3⟩:=jhv h1
   obtain ⟨b1,b2,b3⟩:=jhv h2
   refine ⟨.int k ((m ||| n:Nat):Int),?_,rfl⟩
   simp only [Go.binOp,cBO,Op.intBits,ne_eq,not_true_eq_false,if_false,Sem.run_pure,BitVec.toNat_or,a2,b2]
   rw [qkr h1 h2]
  ·obtain ⟨h0,h⟩:=jae.1 h
   obtain ⟨h1,h⟩:=jae.1 h
   obtain ⟨h2,h⟩:=jae.1 h
   cases h
   obtain rfl:=jfb h0
   obtain ⟨b1,b2,b3⟩:=jhv h2
   have hm:m<2 ^ 63:=by have:=jnu h1;omega
   have b2':(BitVec.ofInt 64 (n:Int)).toNat=n:=b2
   have hle:m ^^^ (m &&& n)<=m:=by
    have e:=jhw (BitVec.ofNat 64 m) (BitVec.ofInt 64 (n:Int))
    rw [BitVec.toNat_ofNat,Nat.mod_eq_of_lt (by omega),b2'] at e
    rw [←e,BitVec.toNat_and,BitVec.toNat_ofNat,Nat.mod_eq_of_lt (by omega)]
    exact Nat.and_le_left
   have e1:(BitVec.ofInt 64 (Int.negSucc m) ||| BitVec.ofInt 64 (n:Int)).toNat=2 ^ 64 - 1 - (m ^^^ (m &&& n)):=by
    have e2:BitVec.ofInt 64 (Int.negSucc m) ||| BitVec.ofInt 64 (n:Int) = ~~~ (BitVec.ofNat 64 m &&& ~~~ BitVec.ofInt 64 (n:Int)):=by
     rw [qbm]
     apply BitVec.eq_of_getLsbD_eq
     intro i hi
     simp only [BitVec.getLsbD_and,BitVec.getLsbD_not,BitVec.getLsbD_or,hi,decide_true,Bool.true_and]
     cases (BitVec.ofNat 64 m).getLsbD i<;>cases (BitVec.ofInt 64 (n:Int)).getLsbD i<;>rfl
    rw [e2,BitVec.toNat_not,jhw,BitVec.toNat_ofNat,Nat.mod_eq_of_lt (by omega),b2']
   refine ⟨.int .i64 (Int.negSucc (m ^^^ (m &&& n))),?_,rfl⟩
   simp only [Go.binOp,cBO,Op.intBits,ne_eq,not_true_eq_false,if_false,Sem.run_pure]
   rw [show IntKind.bits .i64=64 from rfl,e1]
   generalize m ^^^ (m &&& n)=q at hle
   have:IntKind.wrap .i64 ((2 ^ 64 - 1 - q:Nat):Int)=Int.negSucc q:=by
    simp only [IntKind.wrap,IntKind.bits,IntKind.signed]
    have h2:(2:Nat) ^ 64=18446744073709551616:=by decide
    have h3:(2:Nat) ^ 63=9223372036854775808:=by decide
    have:Int.negSucc q=-(q:Int) - 1:=by omega
    simp
    omega
   rw [this]
 case andNot =>
  obtain rfl:=hk.resolve_right (by intro h;cases h)
  obtain ⟨m,n,rfl,rfl,h⟩:=jz2 h
  obtain ⟨h1,h⟩:=jae.1 h
  obtain ⟨h2,h⟩:=jae.1 h
  cases h
  obtain ⟨a1,a2,a3⟩:=jhv h1
  obtain ⟨b1,b2,b3⟩:=jhv h2
  refine ⟨.int k ((m ^^^ (m &&& n):Nat):Int),?_,rfl⟩
  simp only [Go.binOp,cBO,Op.intBits,ne_eq,not_true_eq_false,if_false,Sem.run_pure,jhw,a2,b2]
  have e:m ^^^ (m &&& n)=(BitVec.ofInt k.bits (m:Int) &&& ~~~ BitVec.ofInt k.bits (n:Int)).toNat:=by rw [jhw,a2,b2]
  have hle:m ^^^ (m &&& n)<=m:=by
   rw [e,BitVec.toNat_and,a2];exact Nat.and_le_left
  rw [a3 _ hle]
 case shl =>
  obtain ⟨m,n,rfl,rfl,h⟩:=jz2 h
  obtain ⟨h1,h⟩:=jae.1 h
  obtain ⟨rfl,e⟩:=jjz h
  have hm:=jse h1
  refine ⟨_,?_,rfl⟩
  have e':k.wrap ((m:Int)*2 ^ n)=Int.ofNat (Nat.mul m (Nat.pow 2 n)):=by
   have:((m:Int)*2 ^ n)=Int.ofNat (Nat.mul m (Nat.pow 2 n)):=by
    have:Int.ofNat (Nat.mul m (Nat.pow 2 n))=((m*2 ^ n:Nat):Int):=rfl
    rw [this,Int.natCast_mul,Int.natCast_pow];rfl
   rw [this];exact e
  have hn:¬ ((n:Int)<0):=by omega
  simp only [Go.binOp,cBO,Op.shift,hn,if_false,Int.toNat_natCast,hm,Sem.run_pure,e']
 case shr =>
  obtain ⟨m,n,rfl,⟨rfl,h⟩ | ⟨rfl,h⟩⟩:=jsd h
  ·obtain ⟨h1,h⟩:=jae.1 h
   cases h
   have hm:=jse h1
   refine ⟨_,?_,rfl⟩
   have e':(m:Int).fdiv (2 ^ n)=Int.ofNat (Nat.div m (Nat.pow 2 n)):=by
    rw [Int.fdiv_eq_ediv_of_nonneg _ (by exact Int.le_of_lt (Int.pow_pos (by decide)))]
    have:Int.ofNat (Nat.div m (Nat.pow 2 n))=((m / 2 ^ n:Nat):Int):=rfl
    rw [this,Int.natCast_ediv,Int.natCast_pow];rfl
   have hn:¬ ((n:Int)<0):=by omega
   simp only [Go.binOp,cBO,Op.shift,hn,if_false,Int.toNat_natCast,hm,Sem.run_pure,e']
  ·obtain ⟨h1,h⟩:=jae.1 h
   cases h
   have hm:=jse h1
   refine ⟨_,?_,rfl⟩
   have e':(Int.negSucc m).fdiv (2 ^ n)=Int.negSucc (Nat.div m (Nat.pow 2 n)):=by
    obtain ⟨q,hq⟩:∃ q,2 ^ n=q+1:=⟨2 ^ n - 1,by have:=Nat.two_pow_pos n;omega⟩
    have h2:(2:Int) ^ n=((q+1:Nat):Int):=by rw [←hq,Int.natCast_pow];rfl
    have h3:Nat.pow 2 n=q+1:=hq
    rw [h2,h3];rfl
   have hn:¬ ((n:Int)<0):=by omega
   simp only [Go.binOp,cBO,Op.shift,hn,if_false,Int.toNat_natCast,hm,Sem.run_pure,e']
theorem jz3 {l h:Int} {p:Int×Int} (k:rng l h=some p):p=(l,h)/\-9223372036854775808<=l/\h<=9223372036854775807:=by
 obtain ⟨h1,h2⟩:=jae.1 k
 obtain ⟨h3,h4⟩:=jae.1 h2
 cases h4
 rcases jdi h1 with ⟨_,a,_⟩ | ⟨e,_⟩ | ⟨e,_⟩
 ·rcases jdi h3 with ⟨_,_,b⟩ | ⟨e,_⟩ | ⟨e,_⟩
  ·exact ⟨rfl,a,b⟩
  ·cases e
  ·cases e
 ·cases e
 ·cases e
theorem jgq:∀ (e:Sx) {p:Int×Int},itv e=some p->p.1<=den A e/\den A e<=p.2
 | .arg i,p,h=>by cases h
 | .lit n,p,h=>by
  cases (show some (n,n)=some p from h)
  exact ⟨Int.le_refl _,Int.le_refl _⟩
 | .bnd i m,p,h=>by
  cases (show some (Int.ofNat 0,Int.ofNat m)=some p from h)
  simp only [den]
  split
  ·rename_i h1;exact h1
  ·exact ⟨Int.le_refl _,Int.natCast_nonneg m⟩
 | .op o a b,p,h=>by
  cases o
  case add =>
   obtain ⟨p1,h1,h2⟩:=jab.1 (show ob (itv a) (fun p=>ob (itv b) (fun q=>rng (qbg p.1 q.1) (qbg p.2 q.2)))=some p from h)
   obtain ⟨p2,h3,h4⟩:=jab.1 h2
   obtain ⟨rfl,h5,h6⟩:=jz3 h4
   have ia:=jgq a h1
   have ib:=jgq b h3
   rw [jr9] at h5 h6
   have e:IntKind.i64.wrap (den A a+den A b)=den A a+den A b:=by
    simp [IntKind.wrap,IntKind.bits,IntKind.signed];omega
   simp only [den,e,jr9]
   omega
  case sub =>
   obtain ⟨p1,h1,h2⟩:=jab.1 (show ob (itv a) (fun p=>ob (itv b) (fun q=>rng (p.1 - q.2) (p.2 - q.1)))=some p from h)
   obtain ⟨p2,h3,h4⟩:=jab.1 h2
   obtain ⟨rfl,h5,h6⟩:=jz3 h4
   have ia:=jgq a h1
   have ib:=jgq b h3
   have e:IntKind.i64.wrap (den A a - den A b)=den A a - den A b:=by
    simp [IntKind.wrap,IntKind.bits,IntKind.signed];omega
   simp only [den,e]
   omega
  all_goals cases h
theorem jd2 {a b:Sx} {t:Bool} (h:jho a b=some t):t=decide (den A a<=den A b):=by
 obtain ⟨p,h1,h2⟩:=jab.1 h
 obtain ⟨q,h3,h4⟩:=jab.1 h2
 have ia:=jgq (A:=A) a h1
 have ib:=jgq (A:=A) b h3
 rw [jas,jdo] at h4
 split at h4
 ·rename_i h5
  cases h4
  have h5':=of_decide_eq_true h5
  exact (decide_eq_true (by omega)).symm
 ·rw [jas,jdo] at h4
  split at h4
  ·cases h4
  ·rename_i h6
   cases h4
   have h6':¬ p.1<=q.2:=fun k=>h6 (decide_eq_true k)
   exact (decide_eq_false (by omega)).symm
theorem jnw {a b:Sx} (h:jr4 a b=true):den A a≠den A b:=by
 intro e
 unfold jr4 at h
 have l1:∀ t,jho a b=some t->t=true:=fun t k=>by rw [jd2 (A:=A) k];exact decide_eq_true (by omega)
 have l2:∀ t,jho b a=some t->t=true:=fun t k=>by rw [jd2 (A:=A) k];exact decide_eq_true (by omega)
 cases h1:jho a b with
 | none =>
  rw [h1] at h
  cases h2:jho b a with
  | none=>rw [h2] at h;cases h
  | some t=>rw [h2,l2 t h2] at h;cases h
 | some t =>
  rw [h1,l1 t h1] at h
  cases h2:jho b a with
  | none=>rw [h2] at h;cases h
  | some t=>rw [h2,l2 t h2] at h;cases h
theorem jnx {o:BO} {e e':Sx} {v:AV} (h:ju9 o e e'=some v) (t:TypeId) :
 ∃ rv,(Go.binOp (cBO o) t (.int .i64 (den A e)) (.int .i64 (den A e'))).run P w=.ok rv w/\cV A φ v rv:=by
 cases o
 case add=>cases (show some (AV.s (.sym (.op .add e e')))=some v from h);exact ⟨_,by simp [Go.binOp,cBO,Op.intArith]<;>rfl,rfl⟩
 case sub=>cases (show some (AV.s (.sym (.op .sub e e')))=some v from h);exact ⟨_,by simp [Go.binOp,cBO,Op.intArith]<;>rfl,rfl⟩
 case mul=>cases (show some (AV.s (.sym (.op .mul e e')))=some v from h);exact ⟨_,by simp [Go.binOp,cBO,Op.intArith]<;>rfl,rfl⟩
 case quo =>
  obtain ⟨n,rfl,h⟩:=jqy h
  rw [jas] at h
  split at h
  ·cases h
  ·rename_i h0
   rw [jcy] at h0
   have hb:¬ n=0:=by simpa using h0
   cases h
   exact ⟨_,by simp [Go.binOp,cBO,Op.intDiv,den,hb]<;>rfl,rfl⟩
 case rem =>
  obtain ⟨n,rfl,h⟩:=jqy h
  rw [jas] at h
  split at h
  ·cases h
  ·rename_i h0
   rw [jcy] at h0
   have hb:¬ n=0:=by simpa using h0
   cases h
   exact ⟨_,by simp [Go.binOp,cBO,Op.intDiv,den,hb]<;>rfl,rfl⟩
 case eq =>
  rw [show ju9 .eq e e'=oif (j3n e e') (some (.s (.bool true))) (oif (jr4 e e') (some (.s (.bool false))) none) from rfl,jas] at h
  split at h
  ·rename_i h1
   cases h
   rw [jk0 _ _ h1]
   exact ⟨_,by simp [Go.binOp,cBO,Op.intCmp]<;>rfl,rfl⟩
  ·obtain ⟨h1,h⟩:=jae.1 h
   cases h
   have h2:=jnw (A:=A) h1
   exact ⟨.bool false,by simp [Go.binOp,cBO,Op.intCmp,h2],rfl⟩
 case ne =>
  rw [show ju9 .ne e e'=oif (j3n e e') (some (.s (.bool false))) (oif (jr4 e e') (some (.s (.bool true))) none) from rfl,jas] at h
  split at h
  ·rename_i h1
   cases h
   rw [jk0 _ _ h1]
   exact ⟨_,by simp [Go.binOp,cBO,Op.intCmp]<;>rfl,rfl⟩
  ·obtain ⟨h1,h⟩:=jae.1 h
   cases h
   have h2:=jnw (A:=A) h1
   exact ⟨.bool true,by simp [Go.binOp,cBO,Op.intCmp,h2],rfl⟩
 case lt =>
  obtain ⟨t,h1,h2⟩:=jab.1 (show ob (jho e' e) (fun t=>some (.s (.bool (jhm t))))=some v from h)
  cases h2
  rw [jd2 (A:=A) h1,jgd]
  refine ⟨.bool (decide (den A e<den A e')),by simp [Go.binOp,cBO,Op.intCmp],?_⟩
  show Value.bool _=.bool _
  congr 1
  rw [Bool.eq_iff_iff]
  simp
 case le =>
  obtain ⟨t,h1,h2⟩:=jab.1 (show ob (jho e e') (fun t=>some (.s (.bool t)))=some v from h)
  cases h2
  rw [jd2 (A:=A) h1]
  exact ⟨.bool (decide (den A e<=den A e')),by simp [Go.binOp,cBO,Op.intCmp],rfl⟩
 case gt =>
  obtain ⟨t,h1,h2⟩:=jab.1 (show ob (jho e e') (fun t=>some (.s (.bool (jhm t))))=some v from h)
  cases h2
  rw [jd2 (A:=A) h1,jgd]
  refine ⟨.bool (decide (den A e>den A e')),by simp [Go.binOp,cBO,Op.intCmp],?_⟩
  show Value.bool _=.bool _
  congr 1
  rw [Bool.eq_iff_iff]
  simp
 case ge =>
  obtain ⟨t,h1,h2⟩:=jab.1 (show ob (jho e' e) (fun t=>some (.s (.bool t)))=some v from h)
  cases h2
  rw [jd2 (A:=A) h1]
  exact ⟨.bool (decide (den A e≥den A e')),by simp [Go.binOp,cBO,Op.intCmp],rfl⟩
 all_goals cases h
theorem jxp {o:BO} {a b:SV} {v:AV} {x y:Value} (h:jem o a b=some v) (hx:cS A φ a x) (hy:cS A φ b y) (t:TypeId) :
 ∃ rv,(Go.binOp (cBO o) t x y).run P w=.ok rv w/\cV A φ v rv:=by
 cases a with
 | int k m =>
  cases (show x=.int k m from hx)
  cases b with
  | int k' n =>
   cases (show y=.int k' n from hy)
   have h':oif (Nat.beq (ikn k) (ikn k')) (ju7 o k m n) (oif (shk o) (ju7 o k m n) none)=some v:=h
   rw [jas] at h'
   split at h'
   ·rename_i h1;exact jnv h' (.inl (jkz h1)) t
   ·obtain ⟨h1,h'⟩:=jae.1 h';exact jnv h' (.inr h1) t
  | sym e =>
   cases (show y=.int .i64 (den A e) from hy)
   obtain ⟨h1,h'⟩:=jae.1 (show oif (jnk k) (ju9 o (.lit m) e) none=some v from h)
   rw [jfb h1]
   exact jnx h' t
  | _=>cases h
 | sym e =>
  cases (show x=.int .i64 (den A e) from hx)
  obtain ⟨e',h1,h2⟩:=jz1 (show vSx b (fun e'=>ju9 o e e')=some v from h)
  cases h1 _ _ _ hy
  exact jnx h2 t
 | _=>cases h
end
end Go.Proofs.Ytaljcpoopmedmaa.Ev
