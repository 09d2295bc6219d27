/- The model's code prepared for the interpreter: slots as places, types looked up. No program in sight. -/
import Derived.Test.YtehhjbfmjdlcjaaEv
namespace Go.Proofs.Ytehhjbfmjdlcjaa.Ev
open Go
set_option linter.all false
inductive TK where
 | int (k:IntKind)
 | bool
 | slice (e:TypeId)
 | array (n:Nat) (e:TypeId)
 | struct (fs:List (Nat×TypeId))
 | map (k e:TypeId)
 | ptr (e:TypeId)
 | str
 | other
structure TI where
 size:Nat
 bytes:Nat
 agg:Bool
 zero:List SV
 kind:TK
 eq:Option (List Bool)
noncomputable def jkg (t:Tr TI) (k:Nat):Option TI:=t.get (k+1)
def idx (x:Nat):List Nat->Nat->Option Nat
 | [],_=>none
 | a::l,i=>bif Nat.beq a x then some i else idx x l (i+1)
def jmj (x:Nat):List (Option Nat)->Nat->Option Nat
 | [],_=>none
 | some a::l,i=>bif Nat.beq a x then some i else jmj x l (i+1)
 | none::l,i=>jmj x l (i+1)
def jqj:Value->Option AV
 | .bool b=>some (.s (.bool b))
 | .int k n=>some (.s (.int k n))
 | .pointer none=>some (.s .nilPtr)
 | .slice none 0 0=>some (.s .nilSlice)
 | .nilFunc=>some (.s .nilFunc)
 | .map none=>some (.s .nilMap)
 | .string s=>some (.s (.str s.data.toList))
 | _=>none
def cO (π:List Nat) (loc:List (Option Nat)):Operand->Option Od
 | .tmp t=>match jmj t loc 0 with
  | some i=>some (.l i)
  | none=>match idx t π 0 with
   | some j=>some (.g j)
   | none=>none
 | .const v=>(jqj v).map .c
 | .func f=>some (.c (.s (.func f [])))
 | .global _=>none
def cOs (π:List Nat) (loc:List (Option Nat)):List Operand->Option (List Od)
 | []=>some []
 | o::r=>match cO π loc o,cOs π loc r with
  | some x,some l=>some (x::l)
  | _,_=>none
def cOo (π:List Nat) (loc:List (Option Nat)):Option Operand->Option (Option Od)
 | none=>some none
 | some o=>(cO π loc o).map some
def jg4 (π:List Nat) (loc:List (Option Nat)) (place:Nat->Option (Nat×Nat)):List (Nat×Operand)->Option (List (Nat×Nat×Od))
 | []=>some []
 | (i,o)::r=>match place i,cO π loc o,jg4 π loc place r with
  | some (off,n),some x,some l=>some ((off,n,x)::l)
  | _,_,_=>none
def qtx:BinOp->Option BO
 | .add=>some .add | .sub=>some .sub | .mul=>some .mul | .quo=>some .quo | .rem=>some .rem
 | .eql=>some .eq | .neq=>some .ne | .lss=>some .lt | .leq=>some .le | .gtr=>some .gt | .geq=>some .ge | .and=>some .and | .or=>some .or | .andNot=>some .andNot | .shl=>some .shl | .shr=>some .shr
 | _=>none
def qtb:BinOp->Option Bool
 | .eql=>some false | .neq=>some true | _=>none
def ti1 (z:TI):Bool:=z.agg||Nat.beq z.size 1
noncomputable def jb9 (T:Tr TI) (t:TypeId):Option (TypeId×TI):=match jkg T t with
 | some ti=>match ti.kind with
  | .slice e=>match jkg T e with
   | some z=>bif Nat.beq z.size 0 then none else some (e,z)
   | none=>none
  | _=>none
 | none=>none
noncomputable def jmk (T:Tr TI) (t:TypeId) (f:Nat):Option (Nat×TI):=match jkg T t with
 | some ti=>match ti.kind with
  | .struct fs=>match fs[f]? with
   | some p=>match jkg T p.2 with
    | some z=>bif Nat.beq z.size 0 then none else some (p.1,z)
    | none=>none
   | none=>none
  | _=>none
 | none=>none
noncomputable def jm9 (T:Tr TI) (t:TypeId):Option (Nat×TI):=match jkg T t with
 | some ti=>match ti.kind with
  | .array n e=>match jkg T e with
   | some z=>bif Nat.beq z.size 0 then none else some (n,z)
   | none=>none
  | _=>none
 | none=>none
noncomputable def qg1 (T:Tr TI) (t:TypeId):Option (List Bool×TI):=match jkg T t with
 | some ti=>match ti.kind with
  | .map k e=>match jkg T k,jkg T e with
   | some q,some z=>bif ti1 z then (match q.kind with
    | .int _=>some ([false],z)
    | _=>match q.eq with
     | some s=>bif q.agg&&kag s then some (s,z) else none
     | none=>none) else none
   | _,_=>none
  | _=>none
 | none=>none
noncomputable def j0h (T:Tr TI) (t:TypeId):Bool:=match jkg T t with
 | some ti=>match ti.kind with
  | .ptr e=>match jkg T e with
   | some z => !(Nat.beq z.size 0)
   | none=>false
  | _=>false
 | none=>false
noncomputable def j0i (T:Tr TI) (t:TypeId):Bool:=match jkg T t with
 | some ti=>match ti.kind with
  | .int _=>true
  | _=>false
 | none=>false
noncomputable def j0j (T:Tr TI) (t:TypeId):Bool:=match jkg T t with
 | some ti=>match ti.kind with
  | .str=>true
  | _=>false
 | none=>false
noncomputable def qty (T:Tr TI) (t:TypeId):Option (Bool×List Bool):=match jkg T t with
 | some ti=>ti.eq.map fun s=>(ti.agg,s)
 | none=>none
noncomputable def j41 (T:Tr TI) (π:List Nat) (loc:List (Option Nat)) (c:Call):Option IOp :=
 match cOs π loc c.args.toList with
  | some as=>match c.callee with
   | .value (.func f)=>some (.a (.call f as))
   | .value x=>(cO π loc x).map fun x=>.a (.callv x as)
   | .builtin b=>match b,as with
    | .len,[x]=>match c.argTypes[0]? with
     | some t=>(jb9 T t).map fun _=>.p (.len x)
     | none=>none
    | .max,[x,y]=>some (.p (.mm true x y))
    | .min,[x,y]=>some (.p (.mm false x y))
    | .copy,[x,y]=>match c.argTypes[0]? with
     | some t=>(jb9 T t).map fun z=>.a (.copy z.2.size x y)
     | none=>none
    | .clear,[x]=>match c.argTypes[0]? with
     | some t=>(jb9 T t).map fun z=>.a (.clear z.2.zero x)
     | none=>none
    | .append,[x,y]=>match c.argTypes.toList with
     | [t,u]=>bif Nat.beq t u then (jb9 T t).map fun z=>.a (.app z.1 z.2.size z.2.bytes x y) else none
     | _=>none
    | _,_=>some (.a .bad)
   | _=>some (.a .bad)
  | none=>none
noncomputable def cOp (T:Tr TI) (π:List Nat) (loc:List (Option Nat)):Op->Option IOp
 | .move x=>(cO π loc x).map fun x=>.p (.mv x)
 | .assign x=>(cO π loc x).map fun x=>.p (.mv x)
 | .pick c a b=>match cO π loc c,cO π loc a,cO π loc b with
  | some c,some a,some b=>some (.p (.pick c a b))
  | _,_,_=>none
 | .alloc e=>(jkg T e).map fun t=>.a (.new e t.zero)
 | .box e x=>(cO π loc x).map fun x=>.a (.box e x)
 | .build t ps=>match jkg T t with
  | some ti=>match ti.kind with
   | .struct fs=>(jg4 π loc (fun i=>match fs[i]? with | some (off,e)=>(jkg T e).map fun z=>(off,z.size) | none=>none) ps.toList).map fun x=>.p (.build ti.zero x)
   | .array _ e=>match jkg T e with
    | some z=>(jg4 π loc (fun i=>some (i*z.size,z.size)) ps.toList).map fun x=>.p (.build ti.zero x)
    | none=>none
   | _=>none
  | none=>none
 | .buildSlice t len ps=>match jb9 T t with
  | some z=>bif Nat.ble (len*z.2.size) 16777216 then (jg4 π loc (fun i=>some (i*z.2.size,z.2.size)) ps.toList).map fun x=>.a (.bslice z.1 z.2.size (rep z.2.zero len) len x) else none
  | none=>none
 | .load t x=>match jkg T t,cO π loc x with
  | some ti,some x=>bif ti1 ti then some (.a (.load ti.size ti.agg x)) else none
  | _,_=>none
 | .store t x v=>match jkg T t,cO π loc x,cO π loc v with
  | some ti,some x,some v=>some (.a (.store ti.size x v))
  | _,_,_=>none
 | .binOp op t x y _=>match cO π loc x,cO π loc y with
  | some x,some y=>bif j0i T t then (qtx op).map fun o=>.p (.bin o x y) else bif (jb9 T t).isSome then (qtb op).map fun n=>.p (.snil n x y) else match qtb op,qty T t with
   | some n,some q=>some (.p (.eqv n q.1 q.2 x y))
   | some n,none=>bif j0h T t then some (.a (.peq n x y)) else none
   | _,_=>none
  | _,_=>none
 | .unOp .not _ x=>(cO π loc x).map fun x=>.p (.not x)
 | .unOp .neg _ x=>(cO π loc x).map fun x=>.p (.neg x)
 | .makeFunc (.func f) fst caps=>bif Nat.beq fst.size 0 then (cOs π loc caps.toList).map fun x=>.p (.mkfun f x) else none
 | .convert s d x=>match jkg T s,jkg T d,cO π loc x with
  | some _,some ti,some x=>match ti.kind with
   | .int k=>some (.p (.conv k x))
   | _=>none
  | _,_,_=>none
 | .nilCheck x=>(cO π loc x).map fun x=>.p (.nchk x)
 | .makeSlice t l c=>match jb9 T t,cO π loc l,cO π loc c with
  | some z,some l,some c=>some (.a (.mkslice z.1 z.2.size z.2.bytes z.2.zero l c))
  | _,_,_=>none
 | .slice t x lo hi none=>match jb9 T t,cO π loc x,cOo π loc lo,cOo π loc hi with
  | some z,some x,some lo,some hi=>some (.p (.slice z.2.size x lo hi))
  | none,some x,some none,some none=>(jm9 T t).map fun z=>.a (.slicea z.1 z.2.size x)
  | _,_,_,_=>none
 | .slice t x lo (some hi) (some mx)=>match jb9 T t,cO π loc x,cOo π loc lo,cOo π loc (some hi),cOo π loc (some mx) with
  | some z,some x,some lo,some hi,some mx=>some (.p (.slice3 z.2.size x lo hi mx))
  | _,_,_,_,_=>none
 | .fieldAddr t x f=>match jmk T t f,cO π loc x with
  | some p,some x=>some (.p (.fld p.1 x))
  | _,_=>none
 | .field t x f=>match jmk T t f,cO π loc x with
  | some p,some x=>bif ti1 p.2 then some (.p (.fval p.1 p.2.size p.2.agg x)) else none
  | _,_=>none
 | .indexAddr t x i=>match jb9 T t,jm9 T t,cO π loc x,cO π loc i with
  | some z,_,some x,some i=>some (.p (.ixs z.2.size x i))
  | none,some z,some x,some i=>some (.p (.ixa z.1 z.2.size x i))
  | _,_,_,_=>none
 | .index t x i=>bif j0j T t then (match cO π loc x,cO π loc i with
  | some x,some i=>some (.p (.stri x i))
  | _,_=>none) else match jm9 T t,cO π loc x,cO π loc i with
  | some z,some x,some i=>bif ti1 z.2 then some (.p (.ival z.1 z.2.size z.2.agg x i)) else none
  | _,_,_=>none
 | .extract x i=>(cO π loc x).map fun x=>.p (.ext i x)
 | .call c=>j41 T π loc c
 | .makeMap t none=>(qg1 T t).map fun z=>.a (.mkmap z.2.agg)
 | .lookup t x k okf=>match qg1 T t,cO π loc x,cO π loc k with
  | some z,some x,some k=>some (.a (.look z.1 z.2.agg z.2.zero okf x k))
  | _,_,_=>none
 | .mapUpdate t x k v=>match qg1 T t,cO π loc x,cO π loc k,cO π loc v with
  | some z,some x,some k,some v=>some (.a (.mupd z.1 z.2.agg x k v))
  | _,_,_,_=>none
 | _=>some (.a .bad)
def jna (loc:List (Option Nat)) (k:Nat):Option (Nat×Bool)->Option (Option (Nat×Bool))
 | none=>some none
 | some (j,b)=>bif Nat.blt j k then match loc[k - 1 - j]? with
  | some (some d)=>match jmj d loc 0 with
   | some i=>bif Nat.beq i (k - 1 - j) then some (some (i,b)) else none
   | none=>none
  | _=>none else none
def jp7 (nt:Nat):Option Nat->Bool
 | none=>true
 | some d=>Nat.blt d nt
def jml (π:List Nat):Option Nat->Option Nat
 | none=>none
 | some d=>idx d π 0
noncomputable def j3i (T:Tr TI) (π:List Nat) (nt:Nat) (loc:List (Option Nat)) (k:Nat) (o:Oper):Option IOper :=
 bif jp7 nt o.dst then match cOp T π loc o.op,jna loc k o.guard with
  | some op,some g=>some (.mk (jml π o.dst) op g)
  | _,_=>none else none
noncomputable def jik (T:Tr TI) (π:List Nat) (nt:Nat):List (Option Nat)->Nat->List Oper->Option (List IOper)
 | _,_,[]=>some []
 | loc,k,o::r=>match j3i T π nt loc k o,jik T π nt (o.dst::loc) (k+1) r with
  | some op,some l=>some (op::l)
  | _,_=>none
inductive KC where
 | alloc (t:Nat) (e:TypeId)
 | box (t:Nat) (e:TypeId) (x:Operand)
 | norm
def tb (m n:Nat):Bool:=Nat.beq (Nat.land (Nat.shiftRight m n) 1) 1
def jvn (ms:List Nat) (k:Nat):List Edge->Nat->Option Nat
 | [],acc=>some acc
 | e::r,acc=>bif Region.binds .any e then (bif Nat.blt e.on k then match ms[k - 1 - e.on]? with
  | some m=>jvn ms k r (Nat.lor (Nat.lor acc (Nat.shiftLeft 1 e.on)) m)
  | none=>none else none) else jvn ms k r acc
def jg5 (loc:List (Option Nat)) (k m:Nat):List Operand->Bool
 | []=>true
 | .tmp t::r=>(match jmj t loc 0 with
  | some i=>tb m (k - 1 - i)
  | none=>true)&&jg5 loc k m r
 | _::r=>jg5 loc k m r
def jnb:List Operand->List Nat
 | []=>[]
 | .tmp t::r=>t::jnb r
 | _::r=>jnb r
def qtc (x:Nat):List Nat->Bool
 | []=>false
 | a::l=>Nat.beq a x||qtc x l
def qbt:List (List Nat)->Nat
 | []=>0
 | _::l=>qbt l+1
def qtd (d m:Nat):List (List Nat)->Bool
 | []=>true
 | r::l=>(!(qtc d r)||tb m (qbt l))&&qtd d m l
def qg2 (rds:List (List Nat)) (m:Nat):Option Nat->Bool
 | none=>true
 | some d=>qtd d m rds
def jx0 (m:Nat):Option (Nat×Bool)->Bool
 | none=>true
 | some (j,_)=>tb m j
def jvo (loc:List (Option Nat)):Option Nat->Bool
 | none=>true
 | some d=>match jmj d loc 0 with | some _=>false | none=>true
noncomputable def jrw (o:IOper):Bool:=IOper.casesOn (motive:=fun _=>Bool) o (fun _ op _=>IOp.casesOn (motive:=fun _=>Bool) op (fun _=>false) (fun _=>true))
noncomputable def qo8 (T:Tr TI) (π:List Nat) (nt:Nat):List (Option Nat)->List (List Nat)->List Nat->Nat->Nat->List Oper->Option (List (IOper×Bool×Nat))
 | _,_,_,_,_,[]=>some []
 | loc,rds,ms,j3r,k,o::r=>match j3i T π nt loc k o,jvn ms k o.after.toList 0 with
  | some op,some m=>bif jg5 loc k m o.op.operands.toList&&(jx0 m o.guard&&(jvo loc o.dst&&qg2 rds m o.dst)) then
   match qo8 T π nt (o.dst::loc) (jnb o.op.operands.toList::rds) (m::ms) (bif jrw op then Nat.lor j3r (Nat.shiftLeft 1 k) else j3r) (k+1) r with
   | some l=>some ((op,jrw op,Nat.xor j3r (Nat.land j3r m))::l)
   | none=>none else none
  | _,_=>none
def jg6 (un:Nat):Nat->Nat->List Nat
 | 0,_=>[]
 | i+1,o=>bif tb un i then o::jg6 un i (o+1) else jg6 un i (o+1)
def qg3:Nat->List (IOper×Bool×Nat)->List (IOper×Option (List Nat))×Bool
 | _,[]=>([],false)
 | k,(op,act,un)::r=>match qg3 (k+1) r with
  | (l,b)=>match b||(act && !(Nat.beq un 0)) with
   | b'=>((op,bif act&&b' then some (jg6 un k 0) else none)::l,b')
noncomputable def j42 (T:Tr TI) (π:List Nat) (nt:Nat) (ops:List Oper):Option (List (IOper×Option (List Nat))) :=
 match qo8 T π nt [] [] [] 0 0 ops with
 | some l=>some (qg3 0 l).1
 | none=>none
noncomputable def jem (T:Tr TI) (cb π:List Nat) (nt:Nat):Code->Option IC
 | .skip=>some .skip
 | .region _ ops false=>(jik T π nt [] 0 ops.toList).map .region
 | .region _ ops true=>(j42 T π nt ops.toList).map .draw
 | .seq a b=>match jem T cb π nt a,jem T cb π nt b with
  | some x,some y=>some (.seq x y)
  | _,_=>none
 | .cond c a b=>match cO π [] c,jem T cb π nt a,jem T cb π nt b with
  | some c,some x,some y=>some (.cond c x y)
  | _,_,_=>none
 | .block id b=>(jem T cb π nt b).map (.block id)
 | .loop b=>(jem T cb π nt b).map .loop
 | .exit id=>some (.exit id)
 | .ret=>some .ret
 | _=>none
noncomputable def qbu (T:Tr TI) (π:List Nat):List ResultVar->Option (List IR)
 | []=>some []
 | .tmp t::r=>match idx t π 0,qbu T π r with
  | some j,some l=>some (.tmp j::l)
  | _,_=>none
 | .cell t ty::r=>match idx t π 0,jkg T ty,qbu T π r with
  | some j,some ti,some l=>bif ti1 ti then some (.cell j ti.size ti.agg::l) else none
  | _,_,_=>none
def qtz (na:Nat) (acc:List Nat) (t:Nat):List Nat:=bif Nat.blt t na then acc else match idx t acc 0 with | some _=>acc | none=>t::acc
def rdO (na:Nat) (loc:List (Option Nat)) (acc:List Nat):List Operand->List Nat
 | []=>acc
 | .tmp t::r=>rdO na loc (match jmj t loc 0 with | some _=>acc | none=>qtz na acc t) r
 | _::r=>rdO na loc acc r
def j0k (na:Nat):List (Option Nat)->List Nat->List Oper->List Nat
 | _,acc,[]=>acc
 | loc,acc,o::r=>j0k na (o.dst::loc) (rdO na loc acc o.op.operands.toList) r
def jjb (na:Nat) (acc:List Nat):Code->List Nat
 | .region _ ops _=>j0k na [] acc ops.toList
 | .seq a b=>jjb na (jjb na acc a) b
 | .cond c a b=>jjb na (jjb na (rdO na [] acc [c]) a) b
 | .block _ b=>jjb na acc b
 | .loop b=>jjb na acc b
 | _=>acc
def j43 (na:Nat) (acc:List Nat):List ResultVar->List Nat
 | []=>acc
 | .tmp t::r=>j43 na (qtz na acc t) r
 | .cell t _::r=>j43 na (qtz na acc t) r
def j3j (n:Nat):Nat->List Nat
 | 0=>[]
 | k+1=>n::j3j (n+1) k
noncomputable def qg4 (T:Tr TI) (cb acc:List Nat) (f:Func):Option IF :=
 match f.body with
 | none=>none
 | some b =>
  match f.params.size+f.nfree with
  | nargs=>match j3j 0 nargs++acc with
   | π=>match jem T cb π f.ntmps b,qbu T π f.results.toList with
    | some c,some r=>some (.mk c nargs (jd4 acc) r)
    | _,_=>none
def qo9 (f:Func):List Nat:=match f.body with
 | none=>[]
 | some b=>j43 (f.params.size+f.nfree) (jjb (f.params.size+f.nfree) [] b) f.results.toList
noncomputable def qpa (T:Tr TI) (f:Func):Option IF:=qg4 T [] (qo9 f) f
end Go.Proofs.Ytehhjbfmjdlcjaa.Ev
