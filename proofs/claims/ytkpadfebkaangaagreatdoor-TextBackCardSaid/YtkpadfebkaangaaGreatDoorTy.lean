/- The table of the types of this seat's translation, for the interpreter: printed by tygen.py. -/
import Derived.Test.YtkpadfebkaangaaGreatDoorComp
namespace Go.Proofs.YtkpadfebkaangaaGreatDoor.Ev.Ty
open Go
abbrev e : Tr TI := .leaf
abbrev n (l : Tr TI) (v : TI) (r : Tr TI) : Tr TI := .node l (some v) r
abbrev z (l r : Tr TI) : Tr TI := .node l none r
def t0:TI:=⟨1,8,false,[.nilFunc],.other,none⟩
def t1:TI:=⟨1,8,false,[.int .i64 0],.int .i64,none⟩
def t2:TI:=⟨1,1,false,[.bool false],.bool,some [true]⟩
def t3:TI:=⟨1,1,false,[.int .u8 0],.int .u8,none⟩
def t4:TI:=⟨4,24,true,[.int .i64 0,.int .i64 0,.bool false,.int .u8 0],.struct [(0,2),(1,3),(2,4),(3,6)],some [false,false,true,false]⟩
def t5:TI:=⟨1,16,false,[.str []],.str,none⟩
def t6:TI:=⟨1,8,false,[.int .u64 0],.int .u64,none⟩
def t7:TI:=⟨2,24,true,[.str [],.int .u64 0],.struct [(0,9),(1,12)],none⟩
def t8:TI:=⟨1,8,false,[.nilPtr],.other,none⟩
def t9:TI:=⟨1,8,true,[.nilPtr],.struct [(0,17)],none⟩
def t10:TI:=⟨1,16,false,[.ifc false],.ifc,none⟩
def t11:TI:=⟨1,4,false,[.int .i32 0],.int .i32,none⟩
def t12:TI:=⟨1,24,false,[.nilSlice],.slice 90,none⟩
def t13:TI:=⟨2,16,true,[.int .i64 0,.int .i64 0],.array 2 3,none⟩
def t14:TI:=⟨2,16,true,[.int .i64 0,.int .i64 0],.struct [(0,26)],some [false,false]⟩
def t15:TI:=⟨1,24,false,[.nilSlice],.slice 3,none⟩
def t16:TI:=⟨1,24,false,[.nilSlice],.slice 58,none⟩
def t17:TI:=⟨2,48,true,[.nilSlice,.nilSlice],.struct [(0,29),(1,30)],none⟩
def t18:TI:=⟨7,104,true,[.int .i64 0,.int .i64 0,.nilSlice,.nilSlice,.int .i64 0,.int .i64 0,.nilSlice],.struct [(0,28),(2,32),(4,3),(5,3),(6,29)],none⟩
def t19:TI:=⟨1,24,false,[.nilSlice],.slice 9,none⟩
def t20:TI:=⟨1,24,false,[.nilSlice],.slice 5,none⟩
def t21:TI:=⟨2,32,true,[.nilPtr,.nilSlice],.struct [(0,44),(1,45)],none⟩
def t22:TI:=⟨1,24,false,[.nilSlice],.slice 62,none⟩
def t23:TI:=⟨1,24,false,[.nilSlice],.slice 65,none⟩
def t24:TI:=⟨3,72,true,[.nilSlice,.nilSlice,.nilSlice],.struct [(0,29),(1,55),(2,56)],none⟩
def t25:TI:=⟨1,24,false,[.nilSlice],.slice 80,none⟩
def t26:TI:=⟨1,24,false,[.nilSlice],.slice 83,none⟩
def t27:TI:=⟨3,56,true,[.int .i64 0,.nilSlice,.nilSlice],.struct [(0,3),(1,59),(2,60)],none⟩
def t28:TI:=⟨2,32,true,[.int .i64 0,.nilSlice],.struct [(0,3),(1,29)],none⟩
def t29:TI:=⟨8,112,true,[.int .i64 0,.int .i64 0,.nilSlice,.nilSlice,.int .i64 0,.int .i64 0,.nilSlice,.int .i64 0],.struct [(0,34),(7,3)],none⟩
def t30:TI:=⟨5,40,true,[.int .i64 0,.int .i64 0,.bool false,.int .i64 0,.int .i64 0],.struct [(0,3),(1,3),(2,4),(3,3),(4,3)],some [false,false,true,false,false]⟩
def t31:TI:=⟨2,16,true,[.int .i64 0,.int .i64 0],.struct [(0,3),(1,3)],some [false,false]⟩
def t32:TI:=⟨7,104,true,[.int .i64 0,.int .i64 0,.nilSlice,.nilSlice,.int .i64 0,.nilSlice,.int .i64 0],.struct [(0,28),(2,32),(4,3),(5,29),(6,3)],none⟩
def t33:TI:=⟨7,56,true,[.int .i64 0,.int .i64 0,.int .i64 0,.int .i64 0,.int .i64 0,.int .i64 0,.int .i64 0],.struct [(0,3),(1,3),(2,3),(3,3),(4,3),(5,3),(6,3)],some [false,false,false,false,false,false,false]⟩
def t34:TI:=⟨2,32,true,[.nilSlice,.bool false],.struct [(0,36),(1,4)],none⟩
def t35:TI:=⟨1,24,true,[.nilSlice],.struct [(0,45)],none⟩
def t36:TI:=⟨1,24,false,[.nilSlice],.slice 29,none⟩
def t37:TI:=⟨3,48,true,[.str [],.str [],.str []],.array 3 9,none⟩
def t38:TI:=⟨6,96,true,[.str [],.str [],.str [],.str [],.str [],.str []],.array 6 9,none⟩
def t39:TI:=⟨1,24,false,[.nilSlice],.slice 4,none⟩
def t40:TI:=⟨1,24,false,[.nilSlice],.slice 135,none⟩
def t41:TI:=⟨24,24,true,[.int .u8 0,.int .u8 0,.int .u8 0,.int .u8 0,.int .u8 0,.int .u8 0,.int .u8 0,.int .u8 0,.int .u8 0,.int .u8 0,.int .u8 0,.int .u8 0,.int .u8 0,.int .u8 0,.int .u8 0,.int .u8 0,.int .u8 0,.int .u8 0,.int .u8 0,.int .u8 0,.int .u8 0,.int .u8 0,.int .u8 0,.int .u8 0],.array 24 5,none⟩
def t42:TI:=⟨20,160,true,[.int .u64 0,.int .u64 0,.int .u64 0,.int .u64 0,.int .u64 0,.int .u64 0,.int .u64 0,.int .u64 0,.int .u64 0,.int .u64 0,.int .u64 0,.int .u64 0,.int .u64 0,.int .u64 0,.int .u64 0,.int .u64 0,.int .u64 0,.int .u64 0,.int .u64 0,.int .u64 0],.array 20 138,none⟩
def t43:TI:=⟨1,4,false,[.int .u32 0],.int .u32,none⟩
def t44:TI:=⟨3,48,true,[.str [],.str [],.ifc false],.struct [(0,9),(1,9),(2,49)],none⟩
def t45:TI:=⟨2,2,true,[.int .u8 0,.int .u8 0],.struct [(0,5),(1,5)],some [false,false]⟩
def t46:TI:=⟨1,16,true,[.str []],.struct [(0,9)],none⟩
def t47:TI:=⟨4,40,true,[.nilPtr,.nilPtr,.nilPtr,.str []],.struct [(0,17),(1,17),(2,17),(3,9)],none⟩
def t48:TI:=⟨0,0,true,[],.array 0 16,none⟩
def t49:TI:=⟨0,0,true,[],.struct [(0,204)],none⟩
def t50:TI:=⟨11,48,true,[.int .u64 0,.int .u64 0,.int .u32 0,.int .u8 0,.int .u8 0,.int .u8 0,.int .u8 0,.nilFunc,.nilPtr,.int .i32 0,.int .i32 0],.struct [(0,12),(1,12),(2,161),(3,207),(4,5),(5,5),(6,208),(7,209),(8,84),(9,210),(10,211)],none⟩
end Go.Proofs.YtkpadfebkaangaaGreatDoor.Ev.Ty
namespace Go.Proofs.YtkpadfebkaangaaGreatDoor.Ev
open Ty in
def tys : Tr TI := (z (n (n (n (n (n (n (n e t0 e) t0 (n e t0 e)) t17 (n (n e t0 e) t34 e)) t8 (n (n e t30 (n e t3 e)) t21 (n (n e t0 e) t0 e))) t4 (n (n (n (n e t31 e) t29 (n e t8 e)) t0 (n (n e t0 e) t0 e)) t1 (n (n (n e t0 e) t32 e) t22 (n (n e t0 e) t0 e)))) t1 (n (n (n (n (n e t40 e) t0 (n e t45 e)) t0 (n (n e t0 e) t0 e)) t9 (n (n (n e t0 e) t31 (n e t11 e)) t0 (n (n e t0 e) t37 e))) t5 (n (n (z (n e t0 e) (n e t47 e)) t0 (n e t0 e)) t14 (n (n (n e t0 e) t0 e) t25 (n (n e t0 e) t0 e))))) t0 (n (n (n (n (n (n e t0 e) t28 e) t18 (n (n e t43 e) t0 e)) t8 (n (n (n e t0 e) t0 (n e t0 e)) t10 (n (n e t0 e) t0 e))) t5 (n (n (n (n e t41 e) t0 (n e t46 e)) t0 (n (n e t0 e) t0 e)) t0 (n (n (n e t0 e) t33 e) t24 (n e t0 e)))) t3 (n (n (z (n (n e t0 e) t8 e) (n e t35 e)) t11 (n (n (n e t0 e) t8 (n e t50 e)) t0 (n (n e t0 e) t0 e))) t7 (n (n (n e t0 (n e t49 e)) t20 (n (n e t8 e) t0 e)) t15 (n (n e t0 e) t27 (n (n e t44 e) t6 e)))))) (n (n (n (n (n (n (n e t0 e) t28 e) t17 (n (n e t42 e) t0 e)) t8 (n (n (n e t0 e) t30 (n e t3 e)) t10 (n e t8 e))) t4 (z (n (z (n e t0 e) (n e t46 e)) t0 (n e t0 e)) (n (n (n e t0 e) t0 e) t23 (n (n e t0 e) t0 e)))) t2 (n (n (n (n (n e t0 e) t0 (n e t45 e)) t19 (n (n e t0 e) t8 e)) t10 (n (n (n e t0 e) t8 (n e t50 e)) t0 (n (n e t0 e) t38 e))) t6 (n (n (n (n e t0 e) t0 (n e t48 e)) t8 (n (n e t0 e) t36 e)) t14 (n (n (n e t0 e) t8 e) t26 (n (n e t44 e) t0 e))))) t1 (n (n (n (n (n (n e t39 e) t0 e) t18 (n e t8 e)) t9 (z (n (n e t0 e) t31 (n e t11 e)) (n (n e t0 e) t0 e))) t5 (n (n (n (n e t6 e) t0 (n e t47 e)) t0 (n (n e t1 e) t0 e)) t13 (n (n (n e t0 e) t33 e) t24 (n (n e t0 e) t0 e)))) t3 (n (n (n (n (n e t31 e) t29 (n e t0 e)) t0 (n (n e t0 e) t35 e)) t12 (n (n (n e t0 e) t32 e) t0 (n e t0 e))) t7 (n (n (n (n e t0 e) t0 (n e t49 e)) t21 (n (n e t0 e) t0 e)) t16 (n (n (n e t0 e) t34 e) t27 (n (n e t0 e) t0 e)))))))
end Go.Proofs.YtkpadfebkaangaaGreatDoor.Ev
