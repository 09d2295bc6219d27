/- The kit's contracts of the library's functions on strings, laid at this program: printed by the kit's own tool. -/
import Derived.Shelf.Strings.Builder1
import Derived.Shelf.Strconv.Itoa3
import Derived.Shelf.LaysM
import Derived.Test.YtdbklpgagdbpiaaDoorProg
import Derived.Test.YtdbklpgagdbpiaaDoorOp
import Derived.Lib.Split
import Derived.Lib.IndexBytes
import Derived.Lib.ItoaNum
import Derived.Test.YtdbklpgagdbpiaaDoorEnv
import Derived.WalkSmall
import Derived.Lib.SmallJoins
namespace Go.Proofs
open Go.Shelf
def Tryd.lays169_ren:Go.Shelf.Ren:=⟨fun | 169=>15 | n=>n,fun | 70=>45 | 9=>9 | 0=>0 | 72=>48 | 37=>46 | 127=>77 | 3=>3 | 5=>5 | n=>n,fun | n=>n⟩
theorem Tryd.lays169:Go.Proofs.Lays.n169 Tryd.prog Tryd.lays169_ren:={
 mixed:=by kernel_rfl
 f169:=Tryd.func15.trans (congrArg some (by kernel_rfl))
 t0:=Tryd.underlying0
 a0:=Tryd.isAgg0
 z0:=Tryd.sizeOf0
 v0:=Tryd.zeroValue0
 t3:=Tryd.underlying3
 a3:=Tryd.isAgg3
 z3:=Tryd.sizeOf3
 v3:=Tryd.zeroValue3
 t9:=Tryd.underlying9
 a9:=Tryd.isAgg9
 z9:=Tryd.sizeOf9
 v9:=Tryd.zeroValue9
 t37:=Tryd.underlying46
 a37:=Tryd.isAgg46
 z37:=Tryd.sizeOf46
 v37:=Tryd.zeroValue46
 t70:=Tryd.underlying45
 a70:=Tryd.isAgg45
 z70:=Tryd.sizeOf45
 v70:=Tryd.zeroValue45
 t72:=Tryd.underlying48
 a72:=Tryd.isAgg48
 z72:=Tryd.sizeOf48
 v72:=Tryd.zeroValue48
 t127:=Tryd.underlying77
 a127:=Tryd.isAgg77
 z127:=Tryd.sizeOf77
 v127:=Tryd.zeroValue77 }
theorem Tryd.Builder_Extra_169:Builder.Extra Tryd.prog Tryd.lays169_ren:={
 sizeBuilder:=by kernel_rfl
 liesBuilder:=by kernel_rfl
 t5:=Tryd.underlying5
 a5:=Tryd.isAgg5
 z5:=Tryd.sizeOf5
 v5:=Tryd.zeroValue5
 infoByte:=by kernel_rfl
 cellsByte:=by kernel_rfl
 sizeByte:=by kernel_rfl
 neB5:=by decide }
def Tryd.laysM171_ren:Go.Shelf.Ren:=⟨fun | 171=>12 | 243=>22 | 246=>34 | 283=>47 | 284=>48 | 285=>49 | 286=>50 | 129=>62 | 317=>61 | 318=>63 | 319=>64 | 320=>65 | 337=>72 | 338=>73 | n=>n,fun | 3=>3 | 9=>9 | 2=>2 | 4=>4 | 171=>109 | 0=>0 | 53=>110 | 37=>46 | 5=>5 | 173=>113 | 212=>127 | 51=>128 | 20=>20 | 213=>129 | 46=>95 | 232=>143 | 233=>144 | n=>n,fun | 17=>2 | 18=>3 | 19=>4 | n=>n⟩
theorem Tryd.laysM171:Go.Proofs.LaysM.n171 Tryd.prog Tryd.laysM171_ren:={
 mixed:=by kernel_rfl
 f129:=Tryd.func62.trans (congrArg some (by kernel_rfl))
 f171:=Tryd.func12.trans (congrArg some (by kernel_rfl))
 f243:=Tryd.func22.trans (congrArg some (by kernel_rfl))
 f246:=Tryd.func34.trans (congrArg some (by kernel_rfl))
 f283:=Tryd.func47.trans (congrArg some (by kernel_rfl))
 f284:=Tryd.func48.trans (congrArg some (by kernel_rfl))
 f285:=Tryd.func49.trans (congrArg some (by kernel_rfl))
 f286:=Tryd.func50.trans (congrArg some (by kernel_rfl))
 f317:=Tryd.func61.trans (congrArg some (by kernel_rfl))
 f318:=Tryd.func63.trans (congrArg some (by kernel_rfl))
 f319:=Tryd.func64.trans (congrArg some (by kernel_rfl))
 f320:=Tryd.func65.trans (congrArg some (by kernel_rfl))
 f337:=Tryd.func72.trans (congrArg some (by kernel_rfl))
 f338:=Tryd.func73.trans (congrArg some (by kernel_rfl))
 t0:=Tryd.underlying0
 a0:=Tryd.isAgg0
 z0:=Tryd.sizeOf0
 v0:=Tryd.zeroValue0
 t2:=Tryd.underlying2
 a2:=Tryd.isAgg2
 z2:=Tryd.sizeOf2
 v2:=Tryd.zeroValue2
 t3:=Tryd.underlying3
 a3:=Tryd.isAgg3
 z3:=Tryd.sizeOf3
 v3:=Tryd.zeroValue3
 t4:=Tryd.underlying4
 a4:=Tryd.isAgg4
 z4:=Tryd.sizeOf4
 v4:=Tryd.zeroValue4
 t5:=Tryd.underlying5
 a5:=Tryd.isAgg5
 z5:=Tryd.sizeOf5
 v5:=Tryd.zeroValue5
 t9:=Tryd.underlying9
 a9:=Tryd.isAgg9
 z9:=Tryd.sizeOf9
 v9:=Tryd.zeroValue9
 t20:=Tryd.underlying20
 a20:=Tryd.isAgg20
 z20:=Tryd.sizeOf20
 v20:=Tryd.zeroValue20
 t37:=Tryd.underlying46
 a37:=Tryd.isAgg46
 z37:=Tryd.sizeOf46
 v37:=Tryd.zeroValue46
 t46:=Tryd.underlying95
 a46:=Tryd.isAgg95
 z46:=Tryd.sizeOf95
 v46:=Tryd.zeroValue95
 t51:=Tryd.underlying128
 a51:=Tryd.isAgg128
 z51:=Tryd.sizeOf128
 v51:=Tryd.zeroValue128
 t53:=Tryd.underlying110
 a53:=Tryd.isAgg110
 z53:=Tryd.sizeOf110
 v53:=Tryd.zeroValue110
 t171:=Tryd.underlying109
 a171:=Tryd.isAgg109
 z171:=Tryd.sizeOf109
 v171:=Tryd.zeroValue109
 t173:=Tryd.underlying113
 a173:=Tryd.isAgg113
 z173:=Tryd.sizeOf113
 v173:=Tryd.zeroValue113
 t212:=Tryd.underlying127
 a212:=Tryd.isAgg127
 z212:=Tryd.sizeOf127
 v212:=Tryd.zeroValue127
 t213:=Tryd.underlying129
 a213:=Tryd.isAgg129
 z213:=Tryd.sizeOf129
 t232:=Tryd.underlying143
 a232:=Tryd.isAgg143
 z232:=Tryd.sizeOf143
 v232:=Tryd.zeroValue143
 t233:=Tryd.underlying144
 a233:=Tryd.isAgg144
 z233:=Tryd.sizeOf144
 v233:=Tryd.zeroValue144
 g17:=by kernel_rfl
 g18:=by kernel_rfl
 g19:=by kernel_rfl
 i0:=by kernel_rfl
 i2:=by kernel_rfl
 i3:=by kernel_rfl
 i4:=by kernel_rfl
 i5:=by kernel_rfl
 i9:=by kernel_rfl
 i20:=by kernel_rfl
 i37:=by kernel_rfl
 i46:=by kernel_rfl
 i51:=by kernel_rfl
 i53:=by kernel_rfl
 i171:=by kernel_rfl
 i173:=by kernel_rfl
 i212:=by kernel_rfl
 i232:=by kernel_rfl
 i233:=by kernel_rfl
 m17:=by kernel_rfl
 m18:=by kernel_rfl
 m19:=by kernel_rfl }
open Go.RowKit Go.Sort Go.Lib in
theorem Tryd.strconv_Itoa (n:Int) (h0:-9223372036854775808<=n) (h1:n<=9223372036854775807) (w:World) (htab:Lib.TabIs Tryd.prog w "internal/strconv.uint64pow10" .u64 Lib.pow10Tab) :
 Calls Tryd.prog 12 #[.int .i64 n] w fun e w'=>e=.returned (.string ⟨(Lib.itoa n).toArray⟩)/\∃ k os,w'=grow (w.drewN k) os:=Any.strconv_Itoa Tryd.laysM171 n h0 h1 w htab
end Go.Proofs
namespace Go.Proofs.YtdbklpgagdbpiaaDoor.Ev
noncomputable section
open Go Go.Proofs Go.Shelf Go.RowKit
set_option linter.all false
section
variable {P:Program} {ρ:Ren}
theorem jt2 {e:TypeId} (hc:P.cellsOf e=1) (count o n:Nat) (hn:o+n<=count):liesAt P P.depth e count o e n=true:=by
 have hd:P.depth=(2*(P.types.size+Made.depth)+1)+1:=rfl
 rw[hd]
 simp only[liesAt,f2v]
 left
 rw[hd]
 simp[rowAt,hc,hn,sameLayout]
 omega
theorem jjp (w:World) (pt it ty e:TypeId) (hp:P.underlying pt=some (.pointer e)) (hc:P.cellsOf e=1) (g o cells:Nat) (hsh:w.shape? g=some (e,cells)) (l:List UInt8) (h0:l≠[]) (hn:o+l.length<=cells) (h63:l.length<=9223372036854775807)
 (hcell:∀ j x,l[j]?=some x->w.cell? ((⟨g,o,none⟩:Addr).add j)=some (.int .u8 x.toNat)) :
 (Builtin.unsafeString_ #[pt,it] ty #[.pointer (some ⟨g,o,none⟩),.int .i64 l.length]).run P w=.ok (.string ⟨l.toArray⟩) (w.freeze ⟨g,o,none⟩ l.length):=by
 have hl:l.length≠0:=by simpa using h0
 have hlb:=Lib.run_loadBytes (P:=P) w l ⟨g,o,none⟩ .empty hcell
 have hlies:=jt2 (P:=P) hc (cells / P.cellsOf e) o l.length (by rw[hc];simpa using hn)
 have h63':¬ (9223372036854775807:Int)<(l.length:Int):=by omega
 have hdef:Builtin.unsafeString_ #[pt,it] ty #[.pointer (some ⟨g,o,none⟩),.int .i64 l.length] =
  (do
   let n ←asInt (.int .i64 l.length)
   if n<0 then runtimePanic (.error "unsafe.String: len out of range")
   if n>IntKind.i64.max then unsupported (.unsafePointer "String: a length above the largest int")
   if n=0 then pure (.string .empty)
   else if ←variablesAt ⟨g,o,none⟩ (←elemOf pt) n.toNat then do
    let s ←loadBytes ⟨g,o,none⟩ .empty n.toNat
    freeze ⟨g,o,none⟩ n.toNat
    pure (.string s)
   else unsupported (.unsafePointer "String: not so many bytes at ptr")):=rfl
 rw[hdef]
 have hmax:IntKind.i64.max=9223372036854775807:=rfl
 have hneg:¬ (l.length:Int)<0:=by omega
 simp[asInt,asIntOf,hmax,h63',hl,hneg,elemOf,run_underlying hp,variablesAt,viewAt,hsh,hlies,hlb]
set_option maxHeartbeats 1000000 in
set_option maxRecDepth 100000 in
theorem jry (L:Lays.n169 P ρ) (X:Builder.Extra P ρ) (b g o cap:Nat) (p:Value) (cur:Array Value) (l:List UInt8) (w:World)
 (hbk:w.heap[b]?=some (.cells #[p,.slice (some ⟨g,o,none⟩) l.length cap] (ρ.t 72) (0,0))) (hg:w.heap[g]?=some (.cells cur (ρ.t 5) (0,0))) (h0:l≠[]) (hcap:l.length<=cap) (hfit:o+l.length<=cur.size) (h63:l.length<=9223372036854775807)
 (hcell:∀ j x,l[j]?=some x->w.cell? ((⟨g,o,none⟩:Addr).add j)=some (.int .u8 x.toNat)) :
 Calls P (ρ.f 169) #[.pointer (some ⟨b,0,none⟩)] w fun e w'=>e=.returned (.string ⟨l.toArray⟩)/\w'=w.drew.freeze ⟨g,o,none⟩ l.length:=by
 have hl0:l.length≠0:=by simpa using h0
 have c1:w.drew.cell? ⟨b,1,none⟩=some (.slice (some ⟨g,o,none⟩) l.length cap):=by
  have:w.drew.heap[b]?=some (.cells #[p,.slice (some ⟨g,o,none⟩) l.length cap] (ρ.t 72) (0,0)):=hbk
  rw[Lib.cell_of_heap this];rfl
 have hSD:(Builtin.unsafeSliceData_ #[(ρ.t 37)] (ρ.t 127) #[.slice (some ⟨g,o,none⟩) l.length cap]).run P w.drew=.ok (.pointer (some ⟨g,o,none⟩)) w.drew :=
  Lib.run_unsafeSliceData_row _ _ _ _ _ _ (by omega)
 have hUS:(Builtin.unsafeString_ #[(ρ.t 127),(ρ.t 3)] (ρ.t 9) #[.pointer (some ⟨g,o,none⟩),.int .i64 l.length]).run P w.drew=.ok (.string ⟨l.toArray⟩) (w.drew.freeze ⟨g,o,none⟩ l.length) :=
  jjp w.drew (ρ.t 127) (ρ.t 3) (ρ.t 9) (ρ.t 5) L.t127 X.cellsByte g o cur.size (by have hg':w.drew.heap[g]?=some (.cells cur (ρ.t 5) (0,0)):=hg;simp[World.shape?,hg']) l h0 hfit h63 hcell
 clear hcell
 have mixed:=L.mixed
 have t72:=L.t72;have a72:=L.a72;have z72:=L.z72;have v72:=L.v72;have u72:=run_underlying L.t72
 have t70:=L.t70;have a70:=L.a70;have z70:=L.z70;have v70:=L.v70;have u70:=run_underlying L.t70
 have t37:=L.t37;have a37:=L.a37;have z37:=L.z37;have v37:=L.v37;have u37:=run_underlying L.t37
 have t127:=L.t127;have a127:=L.a127;have z127:=L.z127;have v127:=L.v127;have u127:=run_underlying L.t127
 have t3:=L.t3;have a3:=L.a3;have z3:=L.z3;have v3:=L.v3;have u3:=run_underlying L.t3
 have t9:=L.t9;have a9:=L.a9;have z9:=L.z9;have v9:=L.v9;have u9:=run_underlying L.t9
 have t5:=X.t5;have a5:=X.a5;have z5:=X.z5;have v5:=X.v5;have u5:=run_underlying X.t5
 go_enter L.f169,Body.n169_ntmps ρ
 go_wp2
 go_region_o
 all_goals (go_wp2;go_ret;exact⟨rfl,rfl⟩)
end
open Go Go.RowKit
def dig (f:Nat):Nat->List UInt8->List UInt8 :=
 Nat.rec (motive:=fun _=>Nat->List UInt8->List UInt8) (fun _ acc=>acc) (fun _ ih n acc=>oif (Nat.ble n 9) (UInt8.ofNat (Nat.add 48 n)::acc) (ih (Nat.div n 10) (UInt8.ofNat (Nat.add 48 (Nat.mod n 10))::acc))) f
theorem qfe:∀ (f n:Nat) (acc:List UInt8),n<10 ^ f->1<=f->dig f n acc=Lib.decDigits n++acc
 | 0,n,acc,h,h1=>by omega
 | f+1,n,acc,h,_=>by
  show oif (Nat.ble n 9) (UInt8.ofNat (48+n)::acc) (dig f (n / 10) (UInt8.ofNat (48+n % 10)::acc))=_
  unfold Lib.decDigits
  by_cases h1:n<10
  .rw [show Nat.ble n 9=true from f3d (show n<=9 by omega),dif_pos h1];rfl
  .have e:Nat.ble n 9=false:=by
    cases e:Nat.ble n 9 with
    | false=>rfl
    | true=>have:=f0g e;omega
   rw[e,dif_neg h1]
   show dig f (n / 10) _=_
   have hf:1<=f:=by
    cases f with
    | zero=>simp at h;omega
    | succ f=>omega
   rw[qfe f (n / 10) _ (by rw[Nat.pow_succ] at h;omega) hf,f0l]
   rfl
open Go Go.RowKit Go.Sort
variable {g:Nat}
set_option maxRecDepth 100000
def qso (vs:List AV) (h:Hp):R:=match vs with
 | [.s (.int .i64 (.ofNat m))]=>oif (Nat.ble m 9223372036854775807) (ok (.s (.str (dig 19 m []))) h) none
 | _=>none
def jp3 (l:List SV):Bool:=match l with
 | []=>true
 | .int .u8 n::l=>inR .u8 n&&jp3 l
 | _=>false
def qol (vs:List AV) (h:Hp):R:=match vs with
 | [.s (.ptr p 0)]=>ob (h.get p) (fun x=>match x with
  | .arr (c0::c1::[]) ty=>oif (Nat.beq ty bT) (match c0 with
   | .nilPtr=>ob (wr h p 0 [.ptr p 0]) (fun h'=>ok (.tup []) h')
   | .ptr q 0=>oif (Nat.beq q p) (ok (.tup []) h) none
   | _=>none) none
  | _=>none)
 | _=>none
def qpo (vs:List AV) (h:Hp):R:=match vs with
 | [.s (.ptr p 0)]=>ob (h.get p) (fun x=>match x with
  | .arr (_::.slice m off n mc ex sz::[]) ty=>oif (Nat.beq ty bT) (ob (h.get m) (fun y=>match y with
   | .arr cs t2=>oif (Nat.beq t2 5) (oif (Nat.ble h.lo m) (oif (Nat.beq sz 1) (ob (rd h m off n) (fun xs=>ob (qcg xs) (fun l=>match l with
    | []=>none
    | a::r=>oif (Nat.ble (a::r).length 9223372036854775807) (oif (jp3 xs) (ok (.s (.str (a::r))) (h.put m none)) none) none))) none) none) none
   | _=>none)) none
  | _=>none)
 | _=>none
def jz4 (f:FuncId) (vs:List AV) (h:Hp):R :=
 oif (Nat.beq f 12) (qso vs h) (oif (Nat.beq f 21) (qol vs h) (oif (Nat.beq f 15) (qpo vs h) none))
def qvv:Go.Shelf.Ren:=⟨fun | 240=>21 | 276=>33 | n=>n,fun | 37=>46 | 0=>0 | 4=>4 | 9=>9 | 20=>20 | 70=>45 | 72=>48 | 164=>88 | n=>n,fun | n=>n⟩
theorem qpp:Go.Proofs.Lays.n240 Tryd.prog qvv:={
 mixed:=by kernel_rfl
 f240:=Tryd.func21.trans (congrArg some (by kernel_rfl))
 f276:=Tryd.func33.trans (congrArg some (by kernel_rfl))
 t0:=Tryd.underlying0
 a0:=Tryd.isAgg0
 z0:=Tryd.sizeOf0
 v0:=Tryd.zeroValue0
 t4:=Tryd.underlying4
 a4:=Tryd.isAgg4
 z4:=Tryd.sizeOf4
 v4:=Tryd.zeroValue4
 t9:=Tryd.underlying9
 a9:=Tryd.isAgg9
 z9:=Tryd.sizeOf9
 v9:=Tryd.zeroValue9
 t20:=Tryd.underlying20
 a20:=Tryd.isAgg20
 z20:=Tryd.sizeOf20
 v20:=Tryd.zeroValue20
 t70:=Tryd.underlying45
 a70:=Tryd.isAgg45
 z70:=Tryd.sizeOf45
 v70:=Tryd.zeroValue45
 t72:=Tryd.underlying48
 a72:=Tryd.isAgg48
 z72:=Tryd.sizeOf48
 v72:=Tryd.zeroValue48
 t164:=Tryd.underlying88
 a164:=Tryd.isAgg88
 z164:=Tryd.sizeOf88
 v164:=Tryd.zeroValue88 }
theorem qpq:Go.Proofs.Builder.X72 Tryd.prog qvv:={ sizeBuilder:=by kernel_rfl,liesBuilder:=by kernel_rfl }
section
variable {A:Nat->Int} {φ:Phi} {h h':Hp} {w w':World} {W:Nat->Prop}
theorem Rel.below (k:Rel A φ h w) (b:Below w.heap.size w w'):Step W φ φ h h w w'/\Rel A φ h w':=by
 refine⟨⟨Abs.refl W k.wf,fun _ _=>rfl,fun _ _ e=>e,fun _ _ e=>.inl e,b.os,b.tape,b.output,b.size,fun p hp _=>b.block p hp,fun n L hn _ hL=>by rw[k.dom n hn] at hL;cases hL⟩,⟨k.wf,k.dom,fun n x hx=>?_,k.inj,fun p cs e=>?_,k.sep⟩⟩
 .refine (k.blk n x hx).world (fun L hL=>b.block _ ?_)
  obtain⟨L',hL',hb⟩:=(k.blk n x hx).some_loc
  rw[hL'] at hL
  cases hL
  exact hb
 .obtain ⟨ty',h3⟩:=k.con p cs e
  exact⟨ty',by rw[b.block p (k.conLt e)];exact h3⟩
theorem j5g (w:World) (n:Nat) (os:Array Obj):Below w.heap.size w (grow (w.drewN n) os) :=
 ⟨rfl,rfl,rfl,by show w.heap.size<=(w.heap++os).size;rw[Array.size_append];omega,fun k hk=>by
  show(w.heap++os)[k]?=_
  rw[f13 hk]⟩
theorem Rel.var (k:Rel A φ h w) {P:Program} {n:String} (hg:P.globalNamed n=some g) {cs:Array Value} (e:φ.k g=some cs):w.var? P n=some cs:=by
 obtain⟨ty,h3⟩:=k.con g cs e
 unfold World.var?
 rw[hg]
 simp only[Option.bind_some,h3]
def qda (P:Program) (A:Nat->Int) (f:FuncId) (vs:List AV) (h:Hp) (v:AV) (h':Hp):Prop :=
 qe5 P f/\(WF h->Abs (fun n=>h.lo<=n) h h')/\∀ φ w (args:Array Value),Rel A φ h w->All2 (cV A φ) vs args.toList ->
  Calls P f args w (fun e w'=>∃ rv φ',e=.returned rv/\Step (fun n=>h.lo<=n) φ φ' h h' w w'/\Rel A φ' h' w'/\cV A φ' v rv)
end
section
variable {A:Nat->Int} {vs:List AV} {h h':Hp} {v:AV}
theorem qih (hx:qso vs h=some (v,h')):qda Tryd.prog A 12 vs h v h':=by
 unfold qso at hx
 split at hx
 .rename_i m
  obtain⟨h5,h6⟩:=jab.1 hx
  cases h6
  have hm:m<=9223372036854775807:=f0g h5
  refine⟨⟨_,Tryd.func12,by kernel_rfl,by kernel_rfl⟩,fun k=>Abs.refl _ k,fun φ w args rel ha=>?_⟩
  obtain⟨l⟩:=args
  simp only at ha
  cases ha with
  | @cons _ x _ l1 hx1 h7 =>
   cases h7
   have e1:x=.int .i64 (m:Int):=hx1
   subst e1
   have k1:=φ.g.ext
   refine Calls.mono (Tryd.strconv_Itoa (m:Int) (by omega) (by omega) w (rel.var (by kernel_rfl) k1)) ?_
   rintro e w' ⟨rfl,n,os,rfl⟩
   obtain⟨st,r⟩:=rel.below (W:=fun n=>h.lo<=n) (j5g w n os)
   refine⟨_,φ,rfl,st,r,?_⟩
   have e2:Lib.itoa (m:Int)=dig 19 m []:=by
    unfold Lib.itoa
    rw[if_neg (by omega),f1m,qfe 19 m [] (by omega) (by omega),f1c]
   rw[e2]
   rfl
 .cases hx
theorem Rel.builder {φ:Phi} {w:World} (k:Rel A φ h w) {p:Nat} {c0 c1:SV} (hg:h.get p=some (.arr [c0,c1] bT)) :
 ∃ L u0 u1,φ p=some L/\L.o=0/\w.heap[L.b]?=some (.cells #[u0,u1] bT (0,0))/\cS A φ c0 u0/\cS A φ c1 u1:=by
 obtain⟨L,c,h1,h3,h4,h5,h6⟩:=k.blk p _ hg
 obtain⟨e1,e2⟩:=h5.2 rfl
 have hc:c.size=2:=h4.trans e2
 obtain⟨u0,a0,b0⟩:=h6 0 c0 rfl
 obtain⟨u1,a1,b1⟩:=h6 1 c1 rfl
 rw[e1] at a0 a1
 refine⟨L,u0,u1,h1,e1,?_,b0,b1⟩
 have:c=#[u0,u1]:=by
  apply Array.ext_getElem?
  intro i
  match i with
  | 0=>simpa using a0
  | 1=>simpa using a1
  | i+2=>rw[Array.getElem?_eq_none (by omega),Array.getElem?_eq_none (by simp)]
 rw[←this];exact h3
theorem qii (hx:qol vs h=some (v,h')):qda Tryd.prog A 21 vs h v h':=by
 unfold qol at hx
 split at hx
 .rename_i p
  obtain⟨x,hg,h1⟩:=jaa.1 hx
  split at h1
  .rename_i c0 c1 ty
   obtain⟨hty,h2⟩:=jab.1 h1
   obtain rfl:ty=bT:=f0i hty
   have fn:qe5 Tryd.prog 21:=⟨_,Tryd.func21,by kernel_rfl,by kernel_rfl⟩
   split at h2
   ·
    obtain⟨h3,hw,h4⟩:=jaa.1 h2
    cases h4
    refine⟨fn,fun k=>?_,fun φ w args rel ha=>?_⟩
    .obtain ⟨a,hlo⟩:=jsm k hw
     exact a.mono (fun n e=>by subst e;exact hlo)
    .obtain ⟨l⟩:=args
     simp only at ha
     cases ha with
     | @cons _ y _ l1 hx1 h7 =>
      cases h7
      obtain⟨L,u0,u1,e1,e2,e3,e4,e5⟩:=rel.builder hg
      obtain⟨L',e6,e7⟩:=(show jnf φ p 0 y from hx1)
      rw[e1] at e6
      cases e6
      have e8:y=.pointer (some ⟨L.b,0,none⟩):=by rw[e7,e2]
      subst e8
      have e9:u0=.pointer none:=e4
      subst e9
      refine Calls.mono (Any.Builder_copyCheck_fresh qpp qpq L.b w (by simp[World.cell?,e3]) (by simp[World.shape?,e3];rfl) (by simp[World.frozen?,e3])) ?_
      rintro e w' ⟨rfl,rfl⟩
      have hv:All2 (cS A φ) [.ptr p 0] [.pointer (some ⟨L.b,0,none⟩)]:=.cons ⟨L,e1,by rw[e2]⟩ .nil
      obtain⟨hlo,_⟩:=jjh hw
      obtain⟨L2,c,ty,q1,_,q2,q3,q4⟩:=rel.put hw hv
      rw[e1] at q1
      cases q1
      rw[e3] at q2
      cases q2
      obtain⟨s,r⟩:=q4 (w.setCell ⟨L.b,0,none⟩ (.pointer (some ⟨L.b,0,none⟩))) ⟨rfl,rfl,rfl,by simp[World.setCell],fun k hk=>Below.heap_setCell _ _ _ _ (fun e=>hk (by simp[e])),by
       rw[e2]
       simp[World.setCell,Array.getElem?_modify,e3]⟩
      exact⟨_,φ,rfl,s.mono (fun n e=>by subst e;exact hlo),r,[],rfl,.nil⟩
   .rename_i q
    obtain⟨hq,h3⟩:=jab.1 h2
    obtain rfl:=f0i hq
    cases h3
    refine⟨fn,fun k=>Abs.refl _ k,fun φ w args rel ha=>?_⟩
    obtain⟨l⟩:=args
    simp only at ha
    cases ha with
    | @cons _ y _ l1 hx1 h7 =>
     cases h7
     obtain⟨L,u0,u1,e1,e2,e3,e4,e5⟩:=rel.builder hg
     obtain⟨L',e6,e7⟩:=(show jnf φ q 0 y from hx1)
     rw[e1] at e6
     cases e6
     have e8:y=.pointer (some ⟨L.b,0,none⟩):=by rw[e7,e2]
     subst e8
     obtain⟨L',e6,e9⟩:=(show jnf φ q 0 u0 from e4)
     rw[e1] at e6
     cases e6
     have e10:u0=.pointer (some ⟨L.b,0,none⟩):=by rw[e9,e2]
     subst e10
     refine Calls.mono (Any.Builder_copyCheck_used qpp qpq L.b w (by simp[World.cell?,e3])) ?_
     rintro e w' ⟨rfl,rfl⟩
     exact⟨_,φ,rfl,Step.refl _ rel rfl rfl rfl rfl,rel,[],rfl,.nil⟩
   .cases h2
  .cases h1
 .cases hx
theorem Rel.other {φ:Phi} {w w':World} (k:Rel A φ h w) (hn:∀ n L,(h.get n).isSome=true->φ n=some L->L.b≠g) (hk:φ.k g=none) (hw:∀ b,b≠g->w'.heap[b]?=w.heap[b]?):Rel A φ h w' :=
 ⟨k.wf,k.dom,fun n x hx=>(k.blk n x hx).world (fun L hL=>hw _ (hn n L (by rw[hx];rfl) hL)),k.inj,fun b cs e=>by rw[hw b (fun e'=>by rw[e',hk] at e;cases e)];exact k.con b cs e,k.sep⟩
theorem j5h {φ:Phi} {xs:List SV} {l:List UInt8} {us:List Value} (hl:qcg xs=some l) (hv:All2 (cS A φ) xs us) (hb:jp3 xs=true):us=l.map (fun b=>Value.int .u8 (b.toNat:Int)):=by
 obtain⟨ns,rfl,rfl⟩:=jpj hl
 rw[jzp hv]
 clear hv hl
 induction ns with
 | nil=>rfl
 | cons a ns ih =>
  have h1:(inR .u8 a&&jp3 (ns.map (SV.int .u8)))=true:=hb
  rw[f0y] at h1
  rw[f1k,f1k,f1k,ih h1.2]
  congr 2
  cases a with
  | negSucc n=>exact absurd ((show inR .u8 (Int.negSucc n)=false from rfl).symm.trans h1.1) (by decide)
  | ofNat n =>
   have h2:n<=255:=f0g h1.1
   show(n:Int)=(((UInt8.ofNat (Int.toNat (n:Int))).toNat:Nat):Int)
   rw[f1m]
   have:(UInt8.ofNat n).toNat=n:=by simp;omega
   rw[this]
theorem qij (hx:qpo vs h=some (v,h')):qda Tryd.prog A 15 vs h v h':=by
 unfold qpo at hx
 split at hx
 .rename_i p
  obtain⟨x,hg,h1⟩:=jaa.1 hx
  split at h1
  .rename_i c0 m off n mc ex sz ty
   obtain⟨hty,h2⟩:=jab.1 h1
   obtain rfl:ty=bT:=f0i hty
   obtain⟨y,hgm,h3⟩:=jaa.1 h2
   split at h3
   .rename_i cs t2
    obtain⟨ht2,h4⟩:=jab.1 h3
    obtain rfl:t2=5:=f0i ht2
    obtain⟨hlo,h5⟩:=jab.1 h4
    obtain⟨hsz,h6⟩:=jab.1 h5
    obtain rfl:sz=1:=f0i hsz
    obtain⟨xs,hrd,h7⟩:=jaa.1 h6
    obtain⟨l,hl,h8⟩:=jaa.1 h7
    split at h8
    .cases h8
    .rename_i a r
     obtain⟨hl63,h9⟩:=jab.1 h8
     obtain⟨hby,h10⟩:=jab.1 h9
     cases h10
     have hlo':h.lo<=m:=f0g hlo
     have hms:(h.get m).isSome=true:=by rw[hgm];rfl
     refine⟨⟨_,Tryd.func15,by kernel_rfl,by kernel_rfl⟩,fun k=>(Abs.put k hms none).mono (fun n e=>by subst e;exact hlo'),fun φ w args rel ha=>?_⟩
     obtain⟨la⟩:=args
     simp only at ha
     cases ha with
     | @cons _ y _ l1 hx1 hr7 =>
      cases hr7
      obtain⟨L,u0,u1,e1,e2,e3,e4,e5⟩:=rel.builder hg
      obtain⟨L',e6,e7⟩:=(show jnf φ p 0 y from hx1)
      rw[e1] at e6
      cases e6
      have e8:y=.pointer (some ⟨L.b,0,none⟩):=by rw[e7,e2]
      subst e8
      obtain⟨M,ad,cap,p1,p2,p3,p4,p5,p6⟩:=(show cS A φ (.slice m off n mc ex 1) u1 from e5)
      obtain⟨M',us,q1,q2,q3,q4,q5⟩:=je4 rel hrd
      rw[p1] at q1
      cases q1
      obtain⟨M',c,z1,z2,z3,z4,z5⟩:=rel.blk m _ hgm
      rw[p1] at z1
      cases z1
      have hbs:=j5h hl q3 hby
      have hs63:(a::r).length<=9223372036854775807:=f0g hl63
      have hlen:(a::r).length=n:=by
       have:=congrArg List.length hbs
       rw[f1d] at this
       omega
      have hn0:0<n:=by rw[←hlen];exact Nat.succ_pos _
      have hrd2:off+n<=cs.length:=by
       obtain⟨cs',ty',hg',hxs,hxl⟩:=jo3 hrd
       rw[hgm] at hg'
       cases hg'
       rw[hxs] at hxl
       simp at hxl
       omega
      rcases p6 with⟨rfl,p7⟩ | p6
      rotate_left
      .omega
      subst p2
      have z41:=z4.1
      have hlc:(a::r).length<=c.size:=by rw[z3,hlen];omega
      rw[←hlen] at e3
      refine Calls.mono (jry Tryd.lays169 Tryd.Builder_Extra_169 L.b M.b (M.o+off) cap u0 c (a::r) w e3 z2 (by simp) (by omega) (by rw[z3];omega) hs63 (fun j x hj=>?_)) ?_
      .have hu:us[j]?=some (.int .u8 (x.toNat:Int)):=by rw[hbs,f09,hj];rfl
       have:=q5 j _ hu
       rw[jb1];exact this
      .rintro e w' ⟨rfl,rfl⟩
       obtain⟨s1,r1⟩:=rel.kill hms
       have hne:∀ n N,((h.put m none).get n).isSome=true->φ n=some N->N.b≠M.b:=fun n N hn hN e=>by
        have hn1:=s1.abs.get_isSome (by
         rcases f0h n h.next with q | q
         .exact q
         .rw [rel.dom n q] at hN;cases hN) hn
        have:n=m:=rel.inj n m N M hn1 hms hN p1 e
        subst this
        obtain⟨t1,t2⟩:=Hp.get_isSome hms
        rw[Hp.get_eq,rel.wf.put_same t2] at hn
        split at hn<;>cases hn
       have hw:∀ b,b≠M.b->(w.drew.freeze ⟨M.b,M.o+off,none⟩ (a::r).length).heap[b]?=w.heap[b]?:=fun b hb=>by
        unfold World.freeze
        split
        .rfl
        .simp only[Array.getElem?_modify]
         rw[if_neg (fun e=>hb e.symm)]
         rfl
       have hos:(w.drew.freeze ⟨M.b,M.o+off,none⟩ (a::r).length).heap.size=w.heap.size/\(w.drew.freeze ⟨M.b,M.o+off,none⟩ (a::r).length).os=w.os/\(w.drew.freeze ⟨M.b,M.o+off,none⟩ (a::r).length).tape=w.tape/\(w.drew.freeze ⟨M.b,M.o+off,none⟩ (a::r).length).output=w.output:=by
        unfold World.freeze
        split<;>exact⟨by simp<;>rfl,rfl,rfl,rfl⟩
       have r2:=r1.other hne (rel.sep m M hms p1) hw
       refine⟨_,φ,rfl,⟨s1.abs.mono (fun n e=>by subst e;exact hlo'),s1.ext,s1.kle,s1.knew,hos.2.1,hos.2.2.1,hos.2.2.2,by rw[hos.1];exact f0d _,fun b hb hv=>hw b (fun e=>hv m M hlo' hms p1 e.symm),fun n N a1 a2 a3=>by rw[rel.dom n a1] at a3;cases a3⟩,r2,rfl⟩
   .cases h3
  .cases h1
 .cases hx
theorem qik {f:FuncId} (hx:jz4 f vs h=some (v,h')):qda Tryd.prog A f vs h v h':=by
 unfold jz4 at hx
 rw[jap] at hx
 split at hx
 .rename_i e;rw[f0i e];exact qih hx
 rw[jap] at hx
 split at hx
 .rename_i e;rw[f0i e];exact qii hx
 rw[jap] at hx
 split at hx
 .rename_i e;rw[f0i e];exact qij hx
 cases hx
def qdb (F:Fns):Fns:=Fns.casesOn (motive:=fun _=>Fns) F (fun T X=>.mk T (fun f vs h=>Option.rec (motive:=fun _=>R) (X f vs h) (fun r=>some r) (jz4 f vs h)))
theorem j70 {T:Tr TI} {F:Fns} (env:Env Tryd.prog A T F):Env Tryd.prog A T (qdb F):=by
 cases F with
 | mk T0 X =>
  refine⟨env.tys,env.mix,env.fn,fun f vs h v h' hx=>?_⟩
  have hx':Option.rec (motive:=fun _=>R) (X f vs h) (fun r=>some r) (jz4 f vs h)=some (v,h'):=hx
  cases e:jz4 f vs h with
  | none=>rw[e] at hx';exact env.ext f vs h v h' hx'
  | some r =>
   rw[e] at hx'
   cases hx'
   exact qik e
end
end
end Go.Proofs.YtdbklpgagdbpiaaDoor.Ev
