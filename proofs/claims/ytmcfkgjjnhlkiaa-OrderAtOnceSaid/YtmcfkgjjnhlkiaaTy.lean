/- The table of the types of this seat's translation, for the interpreter: printed by tygen.py. -/
import Derived.Test.YtmcfkgjjnhlkiaaComp
namespace Go.Proofs.Ytmcfkgjjnhlkiaa.Ev.Ty
open Go
abbrev e : Tr TI := .leaf
abbrev n (l : Tr TI) (v : TI) (r : Tr TI) : Tr TI := .node l (some v) r
abbrev z (l r : Tr TI) : Tr TI := .node l none r
def t0:TI:=⟨1,8,false,[.nilFunc],.other,none⟩
def t1:TI:=⟨1,8,false,[.int .i64 0],.int .i64,none⟩
def t2:TI:=⟨1,1,false,[.bool false],.bool,some [true]⟩
def t3:TI:=⟨1,1,false,[.int .u8 0],.int .u8,none⟩
def t4:TI:=⟨4,24,true,[.int .i64 0,.int .i64 0,.bool false,.int .u8 0],.struct [(0,2),(1,3),(2,4),(3,6)],some [false,false,true,false]⟩
def t5:TI:=⟨1,16,false,[.str []],.str,none⟩
def t6:TI:=⟨1,8,false,[.int .u64 0],.int .u64,none⟩
def t7:TI:=⟨2,24,true,[.str [],.int .u64 0],.struct [(0,9),(1,12)],none⟩
def t8:TI:=⟨1,8,false,[.nilPtr],.other,none⟩
def t9:TI:=⟨1,8,true,[.nilPtr],.struct [(0,17)],none⟩
def t10:TI:=⟨1,4,false,[.int .i32 0],.int .i32,none⟩
def t11:TI:=⟨1,24,false,[.nilSlice],.slice 46,none⟩
def t12:TI:=⟨2,16,true,[.int .i64 0,.int .i64 0],.array 2 3,none⟩
def t13:TI:=⟨2,16,true,[.int .i64 0,.int .i64 0],.struct [(0,23)],some [false,false]⟩
def t14:TI:=⟨1,24,false,[.nilSlice],.slice 39,none⟩
def t15:TI:=⟨1,24,false,[.nilSlice],.slice 3,none⟩
def t16:TI:=⟨1,8,false,[.nilMap],.map 3 3,none⟩
def t17:TI:=⟨3,24,true,[.int .i64 0,.int .i64 0,.int .i64 0],.struct [(0,3),(1,3),(2,3)],some [false,false,false]⟩
def t18:TI:=⟨6,48,true,[.int .i64 0,.int .i64 0,.int .i64 0,.int .i64 0,.int .i64 0,.int .i64 0],.struct [(0,37),(3,37)],some [false,false,false,false,false,false]⟩
def t19:TI:=⟨1,8,false,[.nilMap],.map 37 3,none⟩
def t20:TI:=⟨8,96,true,[.int .i64 0,.int .i64 0,.nilSlice,.nilMap,.int .i64 0,.int .i64 0,.int .i64 0,.nilSlice],.struct [(0,25),(2,28),(3,49),(4,37),(7,28)],none⟩
def t21:TI:=⟨4,40,true,[.nilPtr,.nilPtr,.nilPtr,.str []],.struct [(0,17),(1,17),(2,17),(3,9)],none⟩
def t22:TI:=⟨0,0,true,[],.array 0 16,none⟩
def t23:TI:=⟨0,0,true,[],.struct [(0,63)],none⟩
def t24:TI:=⟨1,4,false,[.int .u32 0],.int .u32,none⟩
def t25:TI:=⟨11,48,true,[.int .u64 0,.int .u64 0,.int .u32 0,.int .u8 0,.int .u8 0,.int .u8 0,.int .u8 0,.nilFunc,.nilPtr,.int .i32 0,.int .i32 0],.struct [(0,12),(1,12),(2,66),(3,67),(4,5),(5,5),(6,68),(7,69),(8,70),(9,71),(10,72)],none⟩
end Go.Proofs.Ytmcfkgjjnhlkiaa.Ev.Ty
namespace Go.Proofs.Ytmcfkgjjnhlkiaa.Ev
open Ty in
def tys : Tr TI := (z (n (n (n (n (n (n e t22 e) t0 e) t8 (n e t0 e)) t4 (n (n (n e t10 e) t18 e) t12 (n e t0 e))) t1 (n (n (n (n e t3 e) t16 e) t9 (n e t20 e)) t5 (n (n (n e t8 e) t0 e) t0 (n e t0 e)))) t0 (n (n (n (z (n e t23 e) e) t8 (n e t19 e)) t5 (n (z (n e t25 e) e) t13 (n e t0 e))) t3 (n (n (n (n e t0 e) t17 e) t10 (n e t0 e)) t7 (n (n e t17 e) t15 (n e t21 e))))) (n (n (n (n (n (n e t23 e) t1 e) t8 (n e t8 e)) t4 (n (n (n e t10 e) t0 e) t13 (n e t0 e))) t2 (n (z (n (n e t3 e) t17 e) (n e t0 e)) t6 (n (n e t0 e) t14 (n e t0 e)))) t1 (n (n (n (n (n e t24 e) t0 e) t9 (n e t20 e)) t5 (n (n (n e t25 e) t0 e) t0 (n e t0 e))) t3 (n (n (n (n e t8 e) t18 e) t11 (n e t0 e)) t7 (z (n e t17 e) (n e t21 e))))))
end Go.Proofs.Ytmcfkgjjnhlkiaa.Ev
