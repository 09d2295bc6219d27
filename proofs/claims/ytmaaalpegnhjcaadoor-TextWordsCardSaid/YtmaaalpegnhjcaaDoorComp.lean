/- The model's code prepared for the interpreter: slots as places, types looked up. No program in sight. -/
import Derived.Test.YtmaaalpegnhjcaaDoorGlb
namespace Go.Proofs.YtmaaalpegnhjcaaDoor.Ev
open Go
set_option linter.unusedVariables false
inductive TK where
  | int (k : IntKind)
  | bool
  | slice (e : TypeId)
  | array (n : Nat) (e : TypeId)
  | struct (fs : List (Nat × TypeId))
  | map (k e : TypeId)
  | ptr (e : TypeId)
  | str
  | ifc
  | other
structure TI where
  size : Nat
  bytes : Nat
  agg : Bool
  zero : List SV
  kind : TK
  eq : Option (List Bool)
noncomputable def oget (t : Tr TI) (k : Nat) : Option TI := t.get (k + 1)
def idx (x : Nat) : List Nat → Nat → Option Nat
  | [], _ => none
  | a :: l, i => bif Nat.beq a x then some i else idx x l (i + 1)
/-- the place among the region's own values: dsts of the operations before, the last one first -/
def idxL (x : Nat) : List (Option Nat) → Nat → Option Nat
  | [], _ => none
  | some a :: l, i => bif Nat.beq a x then some i else idxL x l (i + 1)
  | none :: l, i => idxL x l (i + 1)
def cConst : Value → Option AV
  | .bool b => some (.s (.bool b))
  | .int k n => some (.s (.int k n))
  | .pointer none => some (.s .nilPtr)
  | .slice none 0 0 => some (.s .nilSlice)
  | .nilFunc => some (.s .nilFunc)
  | .nilIface => some (.s (.ifc false))
  | .map none => some (.s .nilMap)
  | .string s => some (.s (.str s.data.toList))
  | _ => none
noncomputable def cO (π : List Nat) (loc : List (Option Nat)) : Operand → Option Od
  | .tmp t => match idxL t loc 0 with
    | some i => some (.l i)
    | none => match idx t π 0 with
      | some j => some (.g j)
      | none => none
  | .const v => (cConst v).map .c
  | .func f => some (.c (.s (.func f [])))
  | .global g => match glob g with
    | some cs => some (.c (.s (.cp cs)))
    | none => none
noncomputable def cOs (π : List Nat) (loc : List (Option Nat)) : List Operand → Option (List Od)
  | [] => some []
  | o :: r => match cO π loc o, cOs π loc r with
    | some x, some l => some (x :: l)
    | _, _ => none
noncomputable def cOo (π : List Nat) (loc : List (Option Nat)) : Option Operand → Option (Option Od)
  | none => some none
  | some o => (cO π loc o).map some
noncomputable def cParts (π : List Nat) (loc : List (Option Nat)) (place : Nat → Option (Nat × Nat)) : List (Nat × Operand) → Option (List (Nat × Nat × Od))
  | [] => some []
  | (i, o) :: r => match place i, cO π loc o, cParts π loc place r with
    | some (off, n), some x, some l => some ((off, n, x) :: l)
    | _, _, _ => none
def cBin : BinOp → Option BO
  | .add => some .add | .sub => some .sub | .mul => some .mul | .quo => some .quo | .rem => some .rem
  | .eql => some .eq | .neq => some .ne | .lss => some .lt | .leq => some .le | .gtr => some .gt | .geq => some .ge | .and => some .and | .or => some .or | .andNot => some .andNot | .shl => some .shl | .shr => some .shr
  | _ => none
def isEq : BinOp → Option Bool
  | .eql => some false | .neq => some true | _ => none
/-- one cell, or a struct or an array -/
def ti1 (z : TI) : Bool := z.agg || Nat.beq z.size 1
noncomputable def sliceOf (T : Tr TI) (t : TypeId) : Option (TypeId × TI) := match oget T t with
  | some ti => match ti.kind with
    | .slice e => match oget T e with
      | some z => bif Nat.beq z.size 0 then none else some (e, z)
      | none => none
    | _ => none
  | none => none
noncomputable def structOf (T : Tr TI) (t : TypeId) (f : Nat) : Option (Nat × TI) := match oget T t with
  | some ti => match ti.kind with
    | .struct fs => match fs[f]? with
      | some p => match oget T p.2 with
        | some z => bif Nat.beq z.size 0 then none else some (p.1, z)
        | none => none
      | none => none
    | _ => none
  | none => none
noncomputable def arrayOf (T : Tr TI) (t : TypeId) : Option (Nat × TI) := match oget T t with
  | some ti => match ti.kind with
    | .array n e => match oget T e with
      | some z => bif Nat.beq z.size 0 then none else some (n, z)
      | none => none
    | _ => none
  | none => none
def isStructK : TK → Bool
  | .struct _ => true
  | _ => false
/-- a map whose keys are structs: how its keys are alike; its elements' type -/
noncomputable def mapOf (T : Tr TI) (t : TypeId) : Option (List Bool × TI) := match oget T t with
  | some ti => match ti.kind with
    | .map k e => match oget T k, oget T e with
      | some q, some z => bif ti1 z then (match q.kind with
        | .int _ => some ([false], z)
        | _ => match q.eq with
          | some s => bif q.agg && (kag s && isStructK q.kind) then some (s, z) else none
          | none => none) else none
      | _, _ => none
    | _ => none
  | none => none
/-- a type of pointers to things that have cells -/
noncomputable def isPtrT (T : Tr TI) (t : TypeId) : Bool := match oget T t with
  | some ti => match ti.kind with
    | .ptr e => match oget T e with
      | some z => !(Nat.beq z.size 0)
      | none => false
    | _ => false
  | none => false
noncomputable def isIntT (T : Tr TI) (t : TypeId) : Bool := match oget T t with
  | some ti => match ti.kind with
    | .int _ => true
    | _ => false
  | none => false
noncomputable def isStrT (T : Tr TI) (t : TypeId) : Bool := match oget T t with
  | some ti => match ti.kind with
    | .str => true
    | _ => false
  | none => false
def isNilI : Od → Bool
  | .c (.s (.ifc false)) => true
  | _ => false
noncomputable def isIfcT (T : Tr TI) (t : TypeId) : Bool := match oget T t with
  | some ti => match ti.kind with
    | .ifc => true
    | _ => false
  | none => false
/-- a type of slices of bytes -/
noncomputable def isBytesT (T : Tr TI) (t : TypeId) : Bool := match sliceOf T t with
  | some z => match z.2.kind with
    | .int k => Nat.beq (ikn k) 4
    | _ => false
  | none => false
noncomputable def eqOf (T : Tr TI) (t : TypeId) : Option (Bool × List Bool) := match oget T t with
  | some ti => ti.eq.map fun s => (ti.agg, s)
  | none => none
noncomputable def cCall (T : Tr TI) (π : List Nat) (loc : List (Option Nat)) (c : Call) : Option IOp :=
  match cOs π loc c.args.toList with
    | some as => match c.callee with
      | .value (.func f) => some (.a (.call f as))
      | .value x => (cO π loc x).map fun x => .a (.callv x as)
      | .builtin b => match b, as with
        | .len, [x] => match c.argTypes[0]? with
          | some t => bif isStrT T t then some (.a (.strop 3 x x)) else (sliceOf T t).map fun _ => .p (.len x)
          | none => none
        | .max, [x, y] => some (.p (.mm true x y))
        | .min, [x, y] => some (.p (.mm false x y))
        | .copy, [x, y] => match c.argTypes[0]? with
          | some t => (sliceOf T t).map fun z => .a (.copy z.2.size x y)
          | none => none
        | .clear, [x] => match c.argTypes[0]? with
          | some t => (sliceOf T t).map fun z => .a (.clear z.2.zero x)
          | none => none
        | .append, [x, y] => match c.argTypes.toList with
          | [t, u] => bif Nat.beq t u then (sliceOf T t).map fun z => .a (.app z.1 z.2.size z.2.bytes x y) else none
          | _ => none
        | _, _ => some (.a .bad)
      | _ => some (.a .bad)
    | none => none
noncomputable def cOp (T : Tr TI) (π : List Nat) (loc : List (Option Nat)) : Op → Option IOp
  | .move x => (cO π loc x).map fun x => .p (.mv x)
  | .assign x => (cO π loc x).map fun x => .p (.mv x)
  | .pick c a b => match cO π loc c, cO π loc a, cO π loc b with
    | some c, some a, some b => some (.p (.pick c a b))
    | _, _, _ => none
  | .alloc e => (oget T e).map fun t => .a (.new e t.zero)
  | .box e x => (cO π loc x).map fun x => .a (.box e x)
  | .build t ps => match oget T t with
    | some ti => match ti.kind with
      | .struct fs => (cParts π loc (fun i => match fs[i]? with | some (off, e) => (oget T e).map fun z => (off, z.size) | none => none) ps.toList).map fun x => .p (.build ti.zero x)
      | .array _ e => match oget T e with
        | some z => (cParts π loc (fun i => some (i * z.size, z.size)) ps.toList).map fun x => .p (.build ti.zero x)
        | none => none
      | _ => none
    | none => none
  | .buildSlice t len ps => match sliceOf T t with
    | some z => bif Nat.ble (len * z.2.size) 16777216 then (cParts π loc (fun i => some (i * z.2.size, z.2.size)) ps.toList).map fun x => .a (.bslice z.1 z.2.size (rep z.2.zero len) len x) else none
    | none => none
  | .load t x => match oget T t, cO π loc x with
    | some ti, some x => bif ti1 ti then some (.a (.load ti.size ti.agg x)) else none
    | _, _ => none
  | .store t x v => match oget T t, cO π loc x, cO π loc v with
    | some ti, some x, some v => some (.a (.store ti.size x v))
    | _, _, _ => none
  | .binOp op t x y _ => match cO π loc x, cO π loc y with
    | some x, some y => bif isIntT T t then (cBin op).map fun o => .p (.bin o x y) else bif (sliceOf T t).isSome then (isEq op).map fun n => .p (.snil n x y) else match isEq op, eqOf T t with
      | some n, some q => some (.p (.eqv n q.1 q.2 x y))
      | some n, none => bif isPtrT T t then some (.a (.peq n x y)) else bif isStrT T t then some (.a (.strop (bif n then 2 else 1) x y)) else bif isIfcT T t && isNilI y then some (.a (.strop (bif n then 6 else 5) x y)) else none
      | none, _ => match op with
        | .add => bif isStrT T t then some (.a (.strop 4 x y)) else none
        | _ => none
    | _, _ => none
  | .unOp .not _ x => (cO π loc x).map fun x => .p (.not x)
  | .unOp .neg _ x => (cO π loc x).map fun x => .p (.neg x)
  | .makeFunc (.func f) fst caps => bif Nat.beq fst.size 0 then (cOs π loc caps.toList).map fun x => .p (.mkfun f x) else none
  | .convert s d x => match oget T s, oget T d, cO π loc x with
    | some _, some ti, some x => match ti.kind with
      | .int k => some (.p (.conv k x))
      | .str => bif isBytesT T s then some (.a (.strop 0 x x)) else none
      | _ => none
    | _, _, _ => none
  | .nilCheck x => (cO π loc x).map fun x => .p (.nchk x)
  | .makeSlice t l c => match sliceOf T t, cO π loc l, cO π loc c with
    | some z, some l, some c => some (.a (.mkslice z.1 z.2.size z.2.bytes z.2.zero l c))
    | _, _, _ => none
  | .slice t x lo hi none => match sliceOf T t, cO π loc x, cOo π loc lo, cOo π loc hi with
    | some z, some x, some lo, some hi => some (.p (.slice z.2.size x lo hi))
    | none, some x, some none, some none => (arrayOf T t).map fun z => .a (.slicea z.1 z.2.size x)
    | _, _, _, _ => none
  | .slice t x lo (some hi) (some mx) => match sliceOf T t, cO π loc x, cOo π loc lo, cOo π loc (some hi), cOo π loc (some mx) with
    | some z, some x, some lo, some hi, some mx => some (.p (.slice3 z.2.size x lo hi mx))
    | _, _, _, _, _ => none
  | .fieldAddr t x f => match structOf T t f, cO π loc x with
    | some p, some x => some (.p (.fld p.1 x))
    | _, _ => none
  | .field t x f => match structOf T t f, cO π loc x with
    | some p, some x => bif ti1 p.2 then some (.p (.fval p.1 p.2.size p.2.agg x)) else none
    | _, _ => none
  | .indexAddr t x i => match sliceOf T t, arrayOf T t, cO π loc x, cO π loc i with
    | some z, _, some x, some i => some (.p (.ixs z.2.size x i))
    | none, some z, some x, some i => some (.p (.ixa z.1 z.2.size x i))
    | _, _, _, _ => none
  | .index t x i => bif isStrT T t then (match cO π loc x, cO π loc i with
    | some x, some i => some (.p (.stri x i))
    | _, _ => none) else match arrayOf T t, cO π loc x, cO π loc i with
    | some z, some x, some i => bif ti1 z.2 then some (.p (.ival z.1 z.2.size z.2.agg x i)) else none
    | _, _, _ => none
  | .extract x i => (cO π loc x).map fun x => .p (.ext i x)
  | .call c => cCall T π loc c
  | .makeMap t none => (mapOf T t).map fun z => .a (.mkmap z.2.agg)
  | .lookup t x k okf => match mapOf T t, cO π loc x, cO π loc k with
    | some z, some x, some k => some (.a (.look z.1 z.2.agg z.2.zero okf x k))
    | _, _, _ => none
  | .mapUpdate t x k v => match mapOf T t, cO π loc x, cO π loc k, cO π loc v with
    | some z, some x, some k, some v => some (.a (.mupd z.1 z.2.agg x k v))
    | _, _, _, _ => none
  | _ => some (.a .bad)
/-- a guard: the operation's place among those before, whose slot is still its own -/
def cGuard (loc : List (Option Nat)) (k : Nat) : Option (Nat × Bool) → Option (Option (Nat × Bool))
  | none => some none
  | some (j, b) => bif Nat.blt j k then match loc[k - 1 - j]? with
    | some (some d) => match idxL d loc 0 with
      | some i => bif Nat.beq i (k - 1 - j) then some (some (i, b)) else none
      | none => none
    | _ => none else none
/-- where a result goes, in the frame; false: out of bounds -/
def dstOk (nt : Nat) : Option Nat → Bool
  | none => true
  | some d => Nat.blt d nt
def cDst (π : List Nat) : Option Nat → Option Nat
  | none => none
  | some d => idx d π 0
noncomputable def cOper (T : Tr TI) (π : List Nat) (nt : Nat) (loc : List (Option Nat)) (k : Nat) (o : Oper) : Option IOper :=
  bif dstOk nt o.dst then match cOp T π loc o.op, cGuard loc k o.guard with
    | some op, some g => some (.mk (cDst π o.dst) op g)
    | _, _ => none else none
noncomputable def cRegion (T : Tr TI) (π : List Nat) (nt : Nat) : List (Option Nat) → Nat → List Oper → Option (List IOper)
  | _, _, [] => some []
  | loc, k, o :: r => match cOper T π nt loc k o, cRegion T π nt (o.dst :: loc) (k + 1) r with
    | some op, some l => some (op :: l)
    | _, _ => none
def readsNo (t : Nat) : List Operand → Bool
  | [] => true
  | .tmp u :: r => !(Nat.beq u t) && readsNo t r
  | _ :: r => readsNo t r
def memF (x : Nat) : List Nat → Bool
  | [] => false
  | a :: l => Nat.beq a x || memF x l
def noLoc (loc : List (Option Nat)) (t : Nat) : Bool := match idxL t loc 0 with | some _ => false | none => true
def dNone : Option Nat → Bool
  | none => true
  | some _ => false
def dNe (t : Nat) : Option Nat → Bool
  | none => true
  | some d => !(Nat.beq d t)
inductive KC where
  | alloc (t : Nat) (e : TypeId)
  | box (t : Nat) (e : TypeId) (x : Operand)
  | norm
def kindC (cb : List Nat) (o : Oper) : KC := match o.op, o.dst with
  | .alloc e, some t => bif memF t cb then .alloc t e else .norm
  | .box e x, some t => bif memF t cb then .box t e x else .norm
  | _, _ => .norm
def storeOf (o : Oper) : Option (TypeId × Nat × Operand) := match o.op with
  | .store e (.tmp t) v => some (e, t, v)
  | _ => none
/-- an operation of a region without guards; boxes in cb are not written after they are filled: they stay. p: a box that waits for what fills it -/
noncomputable def stepC (T : Tr TI) (cb π : List Nat) (nt : Nat) (p : Option (Nat × TypeId)) (loc : List (Option Nat)) (o : Oper) : Option (IOper × Option (Nat × TypeId) × Option Nat) :=
  match o.guard with
  | some _ => none
  | none => bif dstOk nt o.dst then (match p with
    | none => match kindC cb o with
      | .alloc t e => bif noLoc loc t then (match oget T e with
        | some _ => some (.mk (cDst π (some t)) (.p (.mv (.c .any))) none, some (t, e), none)
        | none => none) else none
      | .box t e x => match oget T e, cO π loc x with
        | some ti, some x' => some (.mk (cDst π (some t)) (.a (.boxc ti.size x')) none, none, some t)
        | _, _ => none
      | .norm => match cOp T π loc o.op with
        | some op => some (.mk (cDst π o.dst) op none, none, o.dst)
        | none => none
    | some (t, e) => match storeOf o with
      | some (e', t', v) => bif Nat.beq e' e && (Nat.beq t' t && (readsNo t [v] && dNone o.dst)) then (match oget T e, cO π loc v with
        | some ti, some v' => some (.mk (cDst π (some t)) (.a (.boxc ti.size v')) none, none, some t)
        | _, _ => none) else none
      | none => bif readsNo t o.op.operands.toList && dNe t o.dst then (match cOp T π loc o.op with
        | some (.p po) => some (.mk (cDst π o.dst) (.p po) none, some (t, e), o.dst)
        | _ => none) else none) else none
noncomputable def cRegionC (T : Tr TI) (cb π : List Nat) (nt : Nat) : Option (Nat × TypeId) → List (Option Nat) → List Oper → Option (List IOper)
  | none, _, [] => some []
  | some _, _, [] => none
  | p, loc, o :: r => match stepC T cb π nt p loc o with
    | some (io, p', d') => (cRegionC T cb π nt p' (d' :: loc) r).map fun l => io :: l
    | none => none
/-- has a region boxes that stay? -/
def hasC (cb : List Nat) : List Oper → Bool
  | [] => false
  | o :: r => (match o.op, o.dst with
    | .alloc _, some t => memF t cb
    | .box _ _, some t => memF t cb
    | _, _ => false) || hasC cb r
/-! ### regions that draw their order -/
def tb (m n : Nat) : Bool := Nat.beq (Nat.land (Nat.shiftRight m n) 1) 1
/-- all that an operation is behind: masks of those before, the last one first -/
def mskOf (ms : List Nat) (k : Nat) : List Edge → Nat → Option Nat
  | [], acc => some acc
  | e :: r, acc => bif Region.binds .any e then (bif Nat.blt e.on k then match ms[k - 1 - e.on]? with
      | some m => mskOf ms k r (Nat.lor (Nat.lor acc (Nat.shiftLeft 1 e.on)) m)
      | none => none else none) else mskOf ms k r acc
/-- what an operation reads: of those before, behind which it is; or what the region began with -/
def readsOk (loc : List (Option Nat)) (k m : Nat) : List Operand → Bool
  | [] => true
  | .tmp t :: r => (match idxL t loc 0 with
    | some i => tb m (k - 1 - i)
    | none => true) && readsOk loc k m r
  | _ :: r => readsOk loc k m r
def tmpsOf : List Operand → List Nat
  | [] => []
  | .tmp t :: r => t :: tmpsOf r
  | _ :: r => tmpsOf r
def memN (x : Nat) : List Nat → Bool
  | [] => false
  | a :: l => Nat.beq a x || memN x l
def llenN : List (List Nat) → Nat
  | [] => 0
  | _ :: l => llenN l + 1
/-- who has read a slot ahead of its writer must be before that; rds: what those before read, the last one first -/
def wrOk (d m : Nat) : List (List Nat) → Bool
  | [] => true
  | r :: l => (!(memN d r) || tb m (llenN l)) && wrOk d m l
def wrOkO (rds : List (List Nat)) (m : Nat) : Option Nat → Bool
  | none => true
  | some d => wrOk d m rds
def guardIn (m : Nat) : Option (Nat × Bool) → Bool
  | none => true
  | some (j, _) => tb m j
def freshD (loc : List (Option Nat)) : Option Nat → Bool
  | none => true
  | some d => match idxL d loc 0 with | some _ => false | none => true
noncomputable def isAct (o : IOper) : Bool := IOper.casesOn (motive := fun _ => Bool) o (fun _ op _ => IOp.casesOn (motive := fun _ => Bool) op (fun _ => false) (fun _ => true))
noncomputable def cDr1 (T : Tr TI) (π : List Nat) (nt : Nat) : List (Option Nat) → List (List Nat) → List Nat → Nat → Nat → List Oper → Option (List (IOper × Bool × Nat))
  | _, _, _, _, _, [] => some []
  | loc, rds, ms, acts, k, o :: r => match cOper T π nt loc k o, mskOf ms k o.after.toList 0 with
    | some op, some m => bif readsOk loc k m o.op.operands.toList && (guardIn m o.guard && (freshD loc o.dst && wrOkO rds m o.dst)) then
        match cDr1 T π nt (o.dst :: loc) (tmpsOf o.op.operands.toList :: rds) (m :: ms) (bif isAct op then Nat.lor acts (Nat.shiftLeft 1 k) else acts) (k + 1) r with
        | some l => some ((op, isAct op, Nat.xor acts (Nat.land acts m)) :: l)
        | none => none else none
    | _, _ => none
def bitsOf (un : Nat) : Nat → Nat → List Nat
  | 0, _ => []
  | i + 1, o => bif tb un i then o :: bitsOf un i (o + 1) else bitsOf un i (o + 1)
def cDr2 : Nat → List (IOper × Bool × Nat) → List (IOper × Option (List Nat)) × Bool
  | _, [] => ([], false)
  | k, (op, act, un) :: r => match cDr2 (k + 1) r with
    | (l, b) => match b || (act && !(Nat.beq un 0)) with
      | b' => ((op, bif act && b' then some (bitsOf un k 0) else none) :: l, b')
noncomputable def cDraw (T : Tr TI) (π : List Nat) (nt : Nat) (ops : List Oper) : Option (List (IOper × Option (List Nat))) :=
  match cDr1 T π nt [] [] [] 0 0 ops with
  | some l => some (cDr2 0 l).1
  | none => none
noncomputable def cCode (T : Tr TI) (cb π : List Nat) (nt : Nat) : Code → Option IC
  | .skip => some .skip
  | .region _ ops false => bif hasC cb ops.toList then (cRegionC T cb π nt none [] ops.toList).map .region else (cRegion T π nt [] 0 ops.toList).map .region
  | .region _ ops true => (cDraw T π nt ops.toList).map .draw
  | .seq a b => match cCode T cb π nt a, cCode T cb π nt b with
    | some x, some y => some (.seq x y)
    | _, _ => none
  | .cond c a b => match cO π [] c, cCode T cb π nt a, cCode T cb π nt b with
    | some c, some x, some y => some (.cond c x y)
    | _, _, _ => none
  | .block id b => (cCode T cb π nt b).map (.block id)
  | .loop b => (cCode T cb π nt b).map .loop
  | .exit id => some (.exit id)
  | .ret => some .ret
  | _ => none
noncomputable def cRes (T : Tr TI) (π : List Nat) : List ResultVar → Option (List IR)
  | [] => some []
  | .tmp t :: r => match idx t π 0, cRes T π r with
    | some j, some l => some (.tmp j :: l)
    | _, _ => none
  | .cell t ty :: r => match idx t π 0, oget T ty, cRes T π r with
    | some j, some ti, some l => bif ti1 ti then some (.cell j ti.size ti.agg :: l) else none
    | _, _, _ => none
/-- slots that outlive a region, beside the arguments -/
def addS (na : Nat) (acc : List Nat) (t : Nat) : List Nat := bif Nat.blt t na then acc else match idx t acc 0 with | some _ => acc | none => t :: acc
def rdO (na : Nat) (loc : List (Option Nat)) (acc : List Nat) : List Operand → List Nat
  | [] => acc
  | .tmp t :: r => rdO na loc (match idxL t loc 0 with | some _ => acc | none => addS na acc t) r
  | _ :: r => rdO na loc acc r
def rdRegion (na : Nat) : List (Option Nat) → List Nat → List Oper → List Nat
  | _, acc, [] => acc
  | loc, acc, o :: r => rdRegion na (o.dst :: loc) (rdO na loc acc o.op.operands.toList) r
def rdCode (na : Nat) (acc : List Nat) : Code → List Nat
  | .region _ ops _ => rdRegion na [] acc ops.toList
  | .seq a b => rdCode na (rdCode na acc a) b
  | .cond c a b => rdCode na (rdCode na (rdO na [] acc [c]) a) b
  | .block _ b => rdCode na acc b
  | .loop b => rdCode na acc b
  | _ => acc
def rdRes (na : Nat) (acc : List Nat) : List ResultVar → List Nat
  | [] => acc
  | .tmp t :: r => rdRes na (addS na acc t) r
  | .cell t _ :: r => rdRes na (addS na acc t) r
def upTo (n : Nat) : Nat → List Nat
  | 0 => []
  | k + 1 => n :: upTo (n + 1) k
/-- a function, its slots and its boxes that stay given -/
noncomputable def compA (T : Tr TI) (cb acc : List Nat) (f : Func) : Option IF :=
  match f.body with
  | none => none
  | some b =>
    match f.params.size + f.nfree with
    | nargs => match upTo 0 nargs ++ acc with
        | π => match cCode T cb π f.ntmps b, cRes T π f.results.toList with
          | some c, some r => some (.mk c nargs (llen acc) r)
          | _, _ => none
/-- slots that are read, as the code reads them -/
def accOf (f : Func) : List Nat := match f.body with
  | none => []
  | some b => rdRes (f.params.size + f.nfree) (rdCode (f.params.size + f.nfree) [] b) f.results.toList
/-- a function without boxes that stay -/
noncomputable def compF (T : Tr TI) (f : Func) : Option IF := compA T [] (accOf f) f
end Go.Proofs.YtmaaalpegnhjcaaDoor.Ev
