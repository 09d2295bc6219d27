/- The table of the types of this seat's translation, for the interpreter: printed by tygen.py. -/
import Derived.Test.YtkplfnkgodnmaaaComp
namespace Go.Proofs.Ytkplfnkgodnmaaa.Ev.Ty
open Go
abbrev e : Tr TI := .leaf
abbrev n (l : Tr TI) (v : TI) (r : Tr TI) : Tr TI := .node l (some v) r
abbrev z (l r : Tr TI) : Tr TI := .node l none r
def t0:TI:=⟨1,8,false,[.nilFunc],.other,none⟩
def t1:TI:=⟨1,8,false,[.int .i64 0],.int .i64,none⟩
def t2:TI:=⟨1,1,false,[.bool false],.bool,some [true]⟩
def t3:TI:=⟨1,1,false,[.int .u8 0],.int .u8,none⟩
def t4:TI:=⟨4,24,true,[.int .i64 0,.int .i64 0,.bool false,.int .u8 0],.struct [(0,2),(1,3),(2,4),(3,6)],some [false,false,true,false]⟩
def t5:TI:=⟨1,16,false,[.str []],.str,none⟩
def t6:TI:=⟨1,8,false,[.int .u64 0],.int .u64,none⟩
def t7:TI:=⟨2,24,true,[.str [],.int .u64 0],.struct [(0,9),(1,12)],none⟩
def t8:TI:=⟨1,8,false,[.nilPtr],.other,none⟩
def t9:TI:=⟨1,8,true,[.nilPtr],.struct [(0,17)],none⟩
def t10:TI:=⟨1,4,false,[.int .i32 0],.int .i32,none⟩
def t11:TI:=⟨1,24,false,[.nilSlice],.slice 5,none⟩
def t12:TI:=⟨2,16,true,[.int .i64 0,.int .i64 0],.array 2 3,none⟩
def t13:TI:=⟨2,16,true,[.int .i64 0,.int .i64 0],.struct [(0,23)],some [false,false]⟩
def t14:TI:=⟨1,24,false,[.nilSlice],.slice 3,none⟩
def t15:TI:=⟨1,24,false,[.nilSlice],.slice 54,none⟩
def t16:TI:=⟨2,48,true,[.nilSlice,.nilSlice],.struct [(0,26),(1,27)],none⟩
def t17:TI:=⟨7,104,true,[.int .i64 0,.int .i64 0,.nilSlice,.nilSlice,.int .i64 0,.int .i64 0,.nilSlice],.struct [(0,25),(2,29),(4,3),(5,3),(6,26)],none⟩
def t18:TI:=⟨1,24,false,[.nilSlice],.slice 82,none⟩
def t19:TI:=⟨3,72,true,[.nilSlice,.nilSlice,.nilSlice],.struct [(0,26),(1,26),(2,26)],none⟩
def t20:TI:=⟨1,24,false,[.nilSlice],.slice 73,none⟩
def t21:TI:=⟨1,24,false,[.nilSlice],.slice 76,none⟩
def t22:TI:=⟨3,72,true,[.nilSlice,.nilSlice,.nilSlice],.struct [(0,26),(1,51),(2,52)],none⟩
def t23:TI:=⟨2,32,true,[.nilSlice,.bool false],.struct [(0,22),(1,4)],none⟩
def t24:TI:=⟨1,24,true,[.nilSlice],.struct [(0,22)],none⟩
def t25:TI:=⟨1,24,false,[.nilSlice],.slice 92,none⟩
def t26:TI:=⟨1,24,false,[.nilSlice],.slice 94,none⟩
def t27:TI:=⟨3,56,true,[.int .i64 0,.nilSlice,.nilSlice],.struct [(0,3),(1,70),(2,71)],none⟩
def t28:TI:=⟨2,32,true,[.int .i64 0,.nilSlice],.struct [(0,3),(1,26)],none⟩
def t29:TI:=⟨7,104,true,[.int .i64 0,.int .i64 0,.nilSlice,.nilSlice,.int .i64 0,.nilSlice,.int .i64 0],.struct [(0,25),(2,29),(4,3),(5,26),(6,3)],none⟩
def t30:TI:=⟨7,56,true,[.int .i64 0,.int .i64 0,.int .i64 0,.int .i64 0,.int .i64 0,.int .i64 0,.int .i64 0],.struct [(0,3),(1,3),(2,3),(3,3),(4,3),(5,3),(6,3)],some [false,false,false,false,false,false,false]⟩
def t31:TI:=⟨1,24,false,[.nilSlice],.slice 26,none⟩
def t32:TI:=⟨5,40,true,[.int .i64 0,.int .i64 0,.bool false,.int .i64 0,.int .i64 0],.struct [(0,3),(1,3),(2,4),(3,3),(4,3)],some [false,false,true,false,false]⟩
def t33:TI:=⟨2,16,true,[.int .i64 0,.int .i64 0],.struct [(0,3),(1,3)],some [false,false]⟩
def t34:TI:=⟨1,24,false,[.nilSlice],.slice 4,none⟩
def t35:TI:=⟨1,24,false,[.nilSlice],.slice 111,none⟩
def t36:TI:=⟨1,4,false,[.int .u32 0],.int .u32,none⟩
def t37:TI:=⟨4,40,true,[.nilPtr,.nilPtr,.nilPtr,.str []],.struct [(0,17),(1,17),(2,17),(3,9)],none⟩
def t38:TI:=⟨0,0,true,[],.array 0 16,none⟩
def t39:TI:=⟨0,0,true,[],.struct [(0,146)],none⟩
def t40:TI:=⟨11,48,true,[.int .u64 0,.int .u64 0,.int .u32 0,.int .u8 0,.int .u8 0,.int .u8 0,.int .u8 0,.nilFunc,.nilPtr,.int .i32 0,.int .i32 0],.struct [(0,12),(1,12),(2,136),(3,149),(4,5),(5,5),(6,150),(7,151),(8,152),(9,153),(10,154)],none⟩
end Go.Proofs.Ytkplfnkgodnmaaa.Ev.Ty
namespace Go.Proofs.Ytkplfnkgodnmaaa.Ev
open Ty in
def tys : Tr TI := (z (n (n (n (n (n (n e t0 e) t17 (n e t0 e)) t8 (n (n (n e t0 e) t29 e) t0 (n e t33 e))) t4 (n (n (n (n e t0 e) t26 e) t0 (n e t0 e)) t12 (n (n (n e t0 e) t0 e) t8 (n e t0 e)))) t1 (n (n (z (n e t0 e) (n e t8 e)) t9 (n (n (n e t39 e) t0 e) t20 (n e t0 e))) t5 (n (z (n (n e t6 e) t28 e) (n e t35 e)) t15 (n (n (n e t40 e) t32 e) t0 (n e t0 e))))) t0 (n (n (n (z (n (n e t0 e) t24 e) (n e t0 e)) t8 (n (n (n e t37 e) t30 e) t0 e)) t5 (n (n (n e t27 e) t19 (n e t0 e)) t13 (n (n (n e t10 e) t6 e) t23 (n e t0 e)))) t3 (n (n (n (n (n e t0 e) t0 e) t0 (n e t0 e)) t10 (n (n (n e t3 e) t31 e) t22 (n e t0 e))) t7 (n (n (n (n e t0 e) t8 e) t0 (n e t0 e)) t16 (n (n (n e t8 e) t33 e) t0 (n e t0 e)))))) (n (n (n (n (n (n (n e t0 e) t8 e) t1 (n e t0 e)) t8 (n (n (n e t37 e) t0 e) t0 (n e t0 e))) t4 (n (n (n (n e t36 e) t27 e) t0 (n e t0 e)) t13 (n (n (n e t8 e) t0 e) t0 (n e t0 e)))) t2 (n (z (n (n (n e t0 e) t0 e) t0 (n e t0 e)) (n (n (n e t39 e) t0 e) t21 (n e t0 e))) t6 (n (n (n e t28 e) t0 (n e t0 e)) t16 (n (n (n e t40 e) t32 e) t0 (n e t0 e))))) t1 (n (n (n (n (n (n e t0 e) t24 e) t0 (n e t0 e)) t9 (n (n (n e t38 e) t30 e) t0 (n e t0 e))) t5 (n (n (n (n e t0 e) t0 e) t19 (n e t34 e)) t14 (n (n (n e t10 e) t0 e) t23 (n e t0 e)))) t3 (n (n (n (n (n e t0 e) t25 e) t18 (n e t0 e)) t11 (n (n (n e t3 e) t0 e) t22 (n e t0 e))) t7 (n (n (n (n e t0 e) t29 e) t0 (n e t33 e)) t17 (n (n e t33 e) t0 (n e t0 e)))))))
end Go.Proofs.Ytkplfnkgodnmaaa.Ev
