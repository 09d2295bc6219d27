/- Code of functions as the interpreter has it prepared, cut at loops. -/
import Derived.Test.YtaljcpoopmedmaaOx
import Derived.Test.YtaljcpoopmedmaaGb
namespace Go.Proofs.Ytaljcpoopmedmaa.Ev
open Go Go.RowKit
set_option linter.all false
set_option maxRecDepth 100000
open Go Go.RowKit Go.Proofs.Ytaljcpoopmedmaa.Ms
def edG (s:List Bool):List (List Nat):=(gS s).modify (3*s.length) (fun _=>[3*s.length+1,3*s.length+2])++[[3*s.length+2],[]]
def qbb:List Bool->Nat->List Nat
 | [],c=>[c,c+1,c+2]
 | false::s,c=>c::(c+2)::(c+1)::qbb s (c+3)
 | true::s,c=>c::(c+1)::(qbb s (c+3)++[c+2])
def xG (s:List Bool):Prop:=∀ (v:SV) (ps is:Nat->SV) (ags:Nat->Nat->SV),qgq 38 [] (gS s++[[]]) v ps is ags=some (.s (jai ja0 (j10 s 0)))/\qgq 38 [] (edG s) v ps is ags=some (.s (jai ja0 (qbb s 0)))/\qgq 39 [] (edG s) v ps is ags=some (.s (jai jgi (jg1 (edG s))))
theorem x_:xG []:=fun _ _ _ _=>⟨by kernel_rfl,by kernel_rfl,by kernel_rfl⟩
theorem x_f:xG [false]:=fun _ _ _ _=>⟨by kernel_rfl,by kernel_rfl,by kernel_rfl⟩
theorem x_t:xG [true]:=fun _ _ _ _=>⟨by kernel_rfl,by kernel_rfl,by kernel_rfl⟩
theorem qse:xG [false,false]:=fun _ _ _ _=>⟨by kernel_rfl,by kernel_rfl,by kernel_rfl⟩
theorem qsf:xG [false,true]:=fun _ _ _ _=>⟨by kernel_rfl,by kernel_rfl,by kernel_rfl⟩
theorem qsg:xG [true,false]:=fun _ _ _ _=>⟨by kernel_rfl,by kernel_rfl,by kernel_rfl⟩
theorem qsh:xG [true,true]:=fun _ _ _ _=>⟨by kernel_rfl,by kernel_rfl,by kernel_rfl⟩
theorem qqj:xG [false,false,false]:=fun _ _ _ _=>⟨by kernel_rfl,by kernel_rfl,by kernel_rfl⟩
theorem qqk:xG [false,false,true]:=fun _ _ _ _=>⟨by kernel_rfl,by kernel_rfl,by kernel_rfl⟩
theorem qql:xG [false,true,false]:=fun _ _ _ _=>⟨by kernel_rfl,by kernel_rfl,by kernel_rfl⟩
theorem qqm:xG [false,true,true]:=fun _ _ _ _=>⟨by kernel_rfl,by kernel_rfl,by kernel_rfl⟩
theorem qqn:xG [true,false,false]:=fun _ _ _ _=>⟨by kernel_rfl,by kernel_rfl,by kernel_rfl⟩
theorem qqo:xG [true,false,true]:=fun _ _ _ _=>⟨by kernel_rfl,by kernel_rfl,by kernel_rfl⟩
theorem qqp:xG [true,true,false]:=fun _ _ _ _=>⟨by kernel_rfl,by kernel_rfl,by kernel_rfl⟩
theorem qqq:xG [true,true,true]:=fun _ _ _ _=>⟨by kernel_rfl,by kernel_rfl,by kernel_rfl⟩
theorem qni:xG [false,false,false,false]:=fun _ _ _ _=>⟨by kernel_rfl,by kernel_rfl,by kernel_rfl⟩
theorem qnj:xG [false,false,false,true]:=fun _ _ _ _=>⟨by kernel_rfl,by kernel_rfl,by kernel_rfl⟩
theorem qnk:xG [false,false,true,false]:=fun _ _ _ _=>⟨by kernel_rfl,by kernel_rfl,by kernel_rfl⟩
theorem qnl:xG [false,false,true,true]:=fun _ _ _ _=>⟨by kernel_rfl,by kernel_rfl,by kernel_rfl⟩
theorem qnm:xG [false,true,false,false]:=fun _ _ _ _=>⟨by kernel_rfl,by kernel_rfl,by kernel_rfl⟩
theorem qnn:xG [false,true,false,true]:=fun _ _ _ _=>⟨by kernel_rfl,by kernel_rfl,by kernel_rfl⟩
theorem qno:xG [false,true,true,false]:=fun _ _ _ _=>⟨by kernel_rfl,by kernel_rfl,by kernel_rfl⟩
theorem qnp:xG [false,true,true,true]:=fun _ _ _ _=>⟨by kernel_rfl,by kernel_rfl,by kernel_rfl⟩
theorem qnq:xG [true,false,false,false]:=fun _ _ _ _=>⟨by kernel_rfl,by kernel_rfl,by kernel_rfl⟩
theorem qnr:xG [true,false,false,true]:=fun _ _ _ _=>⟨by kernel_rfl,by kernel_rfl,by kernel_rfl⟩
theorem qns:xG [true,false,true,false]:=fun _ _ _ _=>⟨by kernel_rfl,by kernel_rfl,by kernel_rfl⟩
theorem qnt:xG [true,false,true,true]:=fun _ _ _ _=>⟨by kernel_rfl,by kernel_rfl,by kernel_rfl⟩
theorem qnu:xG [true,true,false,false]:=fun _ _ _ _=>⟨by kernel_rfl,by kernel_rfl,by kernel_rfl⟩
theorem qnv:xG [true,true,false,true]:=fun _ _ _ _=>⟨by kernel_rfl,by kernel_rfl,by kernel_rfl⟩
theorem qnw:xG [true,true,true,false]:=fun _ _ _ _=>⟨by kernel_rfl,by kernel_rfl,by kernel_rfl⟩
theorem qnx:xG [true,true,true,true]:=fun _ _ _ _=>⟨by kernel_rfl,by kernel_rfl,by kernel_rfl⟩
theorem qny:∀ (s:List Bool),s.length<=4->xG s
 | [],_=>x_
 | [false],_=>x_f
 | [true],_=>x_t
 | [false,false],_=>qse
 | [false,true],_=>qsf
 | [true,false],_=>qsg
 | [true,true],_=>qsh
 | [false,false,false],_=>qqj
 | [false,false,true],_=>qqk
 | [false,true,false],_=>qql
 | [false,true,true],_=>qqm
 | [true,false,false],_=>qqn
 | [true,false,true],_=>qqo
 | [true,true,false],_=>qqp
 | [true,true,true],_=>qqq
 | [false,false,false,false],_=>qni
 | [false,false,false,true],_=>qnj
 | [false,false,true,false],_=>qnk
 | [false,false,true,true],_=>qnl
 | [false,true,false,false],_=>qnm
 | [false,true,false,true],_=>qnn
 | [false,true,true,false],_=>qno
 | [false,true,true,true],_=>qnp
 | [true,false,false,false],_=>qnq
 | [true,false,false,true],_=>qnr
 | [true,false,true,false],_=>qns
 | [true,false,true,true],_=>qnt
 | [true,true,false,false],_=>qnu
 | [true,true,false,true],_=>qnv
 | [true,true,true,false],_=>qnw
 | [true,true,true,true],_=>qnx
 | _::_::_::_::_::_,h=>absurd h (by simp)
set_option maxHeartbeats 2000000
section
variable {h:Hp} {f:Fc} {m:Nat×Nat} {Q:AV->Hp->Prop}
theorem j8y (k:FcOk m f) (on:jix f=0) (m1:2<=m.1/\m.1<=10) (m2:2<=m.2/\m.2<=10):WC F10 19 [.agg [jai ja0 f.values,jai ja3 f.blocks],.agg [si m.1,si m.2]] h Q=Q (vi 0) h :=
 jat ((qa8 rfl rfl).trans ((jbm rfl).trans (by rw [qc4 k m1 m2,on];rfl)))
end
section
variable {h:Hp} {f:Fc} {m:Nat×Nat} {x:AV} {na nb:List Nat} {Q:AV->Hp->Prop}
theorem jxc {a b:Int} (ha:In6 a) (hb:In6 b):WC F11 17 [vi a,vi b] h Q=Q (.agg (qli (juf a b))) h:=jat ((jbm rfl).trans ((qa8 rfl rfl).trans ((jbm rfl).trans ((qq7 rfl rfl rfl rfl).trans (j3c ha hb)))))
theorem j8z {l:List Pc} (m1:2<=m.1/\m.1<=10) (m2:2<=m.2/\m.2<=10) (pin:∀ q∈l,Pin q) {xl:SV} (lx:LstE jb6 7 xl l):WC F11 16 [.agg [si m.1,si m.2],.s xl] h Q=Q (.agg (j3p (jei m l))) h:=jat ((jbm rfl).trans ((qa8 rfl rfl).trans ((jbm rfl).trans ((qq7 rfl rfl rfl rfl).trans (qft m1 m2 pin lx)))))
end
def jzt:IC:=(.seq (.block 1 (.seq (.region [(qP (.mv (.g 10))),(qQ 7 (.mv (.l 0)))]) (.seq (.region [(qP (.fld 1 (.g 12))),(qA (.load 1 false (.l 0))),(qP (.mv (.g 7))),(qP (.ixs 3 (.l 1) (.l 0))),(qP (.fld 2 (.l 0))),(qA (.load 1 false (.l 0))),(qP (.len (.l 0))),(qQ 6 (.bin .eq (.l 0) (qC 0)))]) (.cond (.g 6) (.region [(qP (.mv (.g 7))),(qQ 4 (.mv (.l 0)))]) .skip)))) (.region [(qP (.bin .add (.g 10) (qC 1))),(qQ 10 (.mv (.l 0)))]))
def ju3:IC:=(.seq (.region [(qQ 8 (.bin .lt (.g 10) (.g 9)))]) (.seq (.cond (.g 8) .skip (.exit 0)) jzt))
def j80:IC:=(.seq (.region [(qQ 4 (.mv (qC (-1))))]) (.seq (.seq (.region [(qP (.fld 1 (.g 12))),(qA (.load 1 false (.l 0))),(qQ 9 (.len (.l 0))),(qQ 10 (.mv (qC 0)))]) (.block 0 (.loop ju3))) (.seq (.region [(qP (.fld 1 (.g 12))),(qA (.load 1 false (.l 0))),(qP (.len (.l 0))),(qQ 5 (.mv (.l 0)))]) (.seq (.region [(qP (.fld 1 (.g 12))),(qA (.load 1 false (.l 0))),(qP (.mv (.g 5))),(qP (.bin .add (.l 0) (qC 1))),(qP (.build [(.int .i64 0),.nilSlice] [(0,(1,(.l 0)))])),(qA (.bslice 51 2 [(.int .i64 0),.nilSlice] 1 [(0,(2,(.l 0)))])),(qP (.build [.nilSlice,.nilSlice,.nilSlice] [(2,(1,(.l 0)))])),(qP (.build [.nilSlice,.nilSlice,.nilSlice] [])),(qA (.bslice 36 3 [.nilSlice,.nilSlice,.nilSlice,.nilSlice,.nilSlice,.nilSlice] 2 [(0,(3,(.l 1))),(3,(3,(.l 0)))])),(qA (.app 36 3 72 (.l 7) (.l 0))),(qP (.fld 1 (.g 12))),(qA (.store 1 (.l 0) (.l 1)))]) (.seq (.region [(qP (.fld 1 (.g 12))),(qA (.load 1 false (.l 0))),(qP (.mv (.g 4))),(qP (.mv (.g 5))),(qP (.build [(.int .i64 0),.nilSlice] [(0,(1,(.l 0)))])),(qP (.mv (.g 5))),(qP (.bin .add (.l 0) (qC 1))),(qP (.build [(.int .i64 0),.nilSlice] [(0,(1,(.l 0)))])),(qA (.bslice 51 2 [(.int .i64 0),.nilSlice,(.int .i64 0),.nilSlice] 2 [(0,(2,(.l 3))),(2,(2,(.l 0)))])),(qP (.ixs 3 (.l 7) (.l 6))),(qP (.fld 2 (.l 0))),(qA (.store 1 (.l 0) (.l 2)))]) (.seq (.region [(qA (.load 2 true (.g 12))),(qA (.load 2 true (.g 13))),(qA (.call 22 [(.l 1),(.l 0)])),(qP (.bin .eq (.l 0) (qC 11))),(qQ 3 (.mv (.l 0)))]) .ret))))))
def qdl:IC:=(.seq (.region [(qQ 3 (.mv (.c (.s (.bool false)))))]) (.seq (.region [(qP (.mv (.g 0))),(qP (.mv (.g 1))),(qA (.call 17 [(.l 1),(.l 0)])),(qB 13 (.new 30 [(.int .i64 0),(.int .i64 0)])),(qA (.store 2 (.l 0) (.l 1)))]) (.seq (.region [(qA (.load 2 true (.g 13))),(qP (.mv (.g 2))),(qA (.call 16 [(.l 1),(.l 0)])),(qA (.call 20 [(.l 0)])),(qB 12 (.new 26 [.nilSlice,.nilSlice])),(qA (.store 2 (.l 0) (.l 1)))]) (.seq (.seq (.region [(qP (.fld 1 (.g 12))),(qA (.load 1 false (.l 0))),(qP (.len (.l 0))),(qP (.bin .add (.l 0) (qC 2))),(qQ 11 (.bin .gt (.l 0) (qC 16)))]) (.cond (.g 11) (.seq (.region [(qA (.load 2 true (.g 12))),(qA (.load 2 true (.g 13))),(qA (.call 22 [(.l 1),(.l 0)])),(qP (.bin .eq (.l 0) (qC 0))),(qQ 3 (.mv (.l 0)))]) .ret) .skip)) j80))))
theorem qqr:T 7=some (.mk qdl 3 11 [(.tmp 3)]):=by kernel_rfl
theorem j3l (m:Nat×Nat) (l:List Pc):∃ B,(jei m l).blocks[(jei m l).blocks.length - 1]?=some B/\B.instrs≠[]:=by
 obtain ⟨s,k⟩:=Gok.pieces (l.take 24) (w:=jbo m) (s:=[]) ⟨rfl,rfl⟩
 obtain ⟨w,ew⟩:∃ w,(l.take 24).foldl jbl (jbo m)=w:=⟨_,rfl⟩
 rw [ew] at k
 have hc:=k.cur
 have hb:=jhi w ⟨0,0,1,0,0,0,3⟩
 have hf:(jei m l).blocks=(jcd w ⟨0,0,1,0,0,0,3⟩).blocks:=by unfold jei;simp only [ew]
 have hr:=jqb w ⟨0,0,1,0,0,0,3⟩
 rw [hf,hb]
 have e1:w.blocks.length - 1=w.cur:=by omega
 rw [e1]
 unfold jcd
 simp only [hr.1,hr.2]
 unfold jav
 rw [List.getElem?_modify,List.getElem?_eq_getElem (by omega)]
 simp
def qra (s:List Bool):Bool :=
 Nat.blt 4 s.length||(((gS s).take (3*s.length)).all (fun es=>Nat.blt 0 es.length&&(Nat.ble es.length 1||es.all (fun t=>Nat.ble ((jg1 (edG s)).getD t [0,0]).length 1)))&&(Nat.ble ((jg1 (edG s)).getD (3*s.length+1) [0,0]).length 1&&(Nat.blt 1 ((jg1 (edG s)).getD (3*s.length+2) []).length&&((gS s).getD (3*s.length) [0]).isEmpty)))
theorem qbc:(shp 5).all qra=true:=by kernel_rfl
structure EdX (s:List Bool):Prop where
 pos:∀ es∈(gS s).take (3*s.length),0<es.length/\(es.length<=1∨∀ t∈es,∃ pl,(jg1 (edG s))[t]?=some pl/\pl.length<=1)
 a:∃ pl,(jg1 (edG s))[3*s.length+1]?=some pl/\pl.length<=1
 b:∃ pl,(jg1 (edG s))[3*s.length+2]?=some pl/\1<pl.length
 e:(gS s)[3*s.length]?=some []
theorem j81 {l:List (List Nat)} {t:Nat} (h:(l.getD t [0,0]).length<=1):∃ pl,l[t]?=some pl/\pl.length<=1:=by
 rw [List.getD_eq_getElem?_getD] at h
 cases hq:l[t]? with
 | none=>rw [hq] at h;simp at h
 | some pl=>rw [hq] at h;exact ⟨pl,rfl,h⟩
theorem edX {s:List Bool} (hs:s.length<=4):EdX s:=by
 have h:=j8u qbc (s:=s) (by omega)
 unfold qra at h
 rw [Bool.or_eq_true] at h
 have h:=h.resolve_left (by rw [Nat.blt_eq];omega)
 simp only [Bool.and_eq_true,Bool.or_eq_true,Nat.blt_eq,Nat.ble_eq,List.all_eq_true,List.isEmpty_iff] at h
 obtain ⟨h1,h2,h3,h4⟩:=h
 refine ⟨fun es he=>⟨(h1 es he).1,(h1 es he).2.imp id (fun h t ht=>j81 (h t ht))⟩,j81 h2,?_,?_⟩
 ·rw [List.getD_eq_getElem?_getD] at h3
  cases hq:(jg1 (edG s))[3*s.length+2]? with
  | none=>rw [hq] at h3;simp at h3
  | some pl=>rw [hq] at h3;exact ⟨pl,rfl,h3⟩
 ·have hl:=jrz s
  rw [List.getD_eq_getElem?_getD,List.getElem?_eq_getElem (by omega)] at h4
  rw [List.getElem?_eq_getElem (by omega)]
  exact congrArg some h4
theorem ju4:∀ (s:List Bool) (c:Nat),(qbb s c).length=3+3*s.length
 | [],c=>rfl
 | false::s,c=>by simp [qbb,ju4 s];omega
 | true::s,c=>by simp [qbb,ju4 s];omega
def edB (n:Nat) (B:Ms.Blk):Ms.Blk:={ B with edges:=[⟨n,[]⟩,⟨n+1,[]⟩] }
def edL (n:Nat):List Ms.Blk:=[⟨[],[],[⟨n+1,[]⟩]⟩,⟨[],[],[]⟩]
def edS (f:Fc) (B:Ms.Blk):Fc:=⟨f.values,(f.blocks++edL f.blocks.length).set (f.blocks.length - 1) (edB f.blocks.length B)⟩
theorem qnz {f:Fc} {s:List Bool} {B:Ms.Blk} (hg:grL f.blocks=gS s) (hl:f.blocks.length=1+3*s.length):grL (edS f B).blocks=edG s:=by
 have e:f.blocks.length - 1=3*s.length:=by omega
 have h3:=jrz s
 unfold edS edG grL
 simp only
 rw [e,List.map_set,List.map_append]
 rw [show f.blocks.map jwz=gS s from hg]
 rw [List.set_append_left _ _ (by omega)]
 congr 1
 ·apply List.ext_getElem?
  intro i
  rw [List.getElem?_set,List.getElem?_modify]
  by_cases h:3*s.length=i
  ·subst h
   rw [List.getElem?_eq_getElem (by omega)]
   simp [jwz,edB,hl]
   omega
  ·rw [if_neg h]
   cases (gS s)[i]?<;>simp [h]
 ·simp [edL,jwz,hl];omega
theorem qqs {m:Nat×Nat} {f:Fc} {B:Ms.Blk} (k:FcOk m f) (hb:f.blocks.length<=14) (hB:f.blocks[f.blocks.length - 1]?=some B) (hi:B.instrs≠[]) (on:jix f=0):FcOk m (edS f B)/\jix (edS f B)=0:=by
 have nb:=k.nb
 have mB:=List.mem_of_getElem? hB
 have kB:=k.blk B mB
 have mem:∀ {b:Ms.Blk},b∈(edS f B).blocks->b∈f.blocks∨b=edB f.blocks.length B∨b=⟨[],[],[⟨f.blocks.length+1,[]⟩]⟩∨b=⟨[],[],[]⟩:=fun {b} hb=>by
  rcases List.mem_or_eq_of_mem_set hb with h | h
  ·rcases List.mem_append.1 h with h | h
   ·exact .inl h
   ·simp only [edL,List.mem_cons,List.not_mem_nil,or_false] at h
    rcases h with h | h
    ·exact .inr (.inr (.inl h))
    ·exact .inr (.inr (.inr h))
  ·exact .inr (.inl h)
 have len:(edS f B).blocks.length=f.blocks.length+2:=by unfold edS edL;simp
 have at_:∀ {t:Nat} {b:Ms.Blk},f.blocks[t]?=some b->∃ b',(edS f B).blocks[t]?=some b'/\b'.params=b.params:=fun {t b} h=>by
  have ht:=(List.getElem?_eq_some_iff.1 h).1
  unfold edS
  simp only
  rw [List.getElem?_set]
  by_cases e:f.blocks.length - 1=t
  ·subst e
   rw [if_pos rfl,if_pos (by simp;omega)]
   rw [hB] at h
   cases h
   exact ⟨_,rfl,rfl⟩
  ·rw [if_neg e,List.getElem?_append_left ht]
   exact ⟨b,h,rfl⟩
 have new:∀ {j:Nat},j<2->∃ b',(edS f B).blocks[f.blocks.length+j]?=some b'/\b'.params=[]:=fun {j} h=>by
  unfold edS
  simp only
  rw [List.getElem?_set,if_neg (by omega),List.getElem?_append_right (by omega),Nat.add_sub_cancel_left]
  rcases j with _ | _ | j
  ·exact ⟨_,rfl,rfl⟩
  ·exact ⟨_,rfl,rfl⟩
  ·omega
 have emp:∀ {j:Nat},j<2->jmx f.values (edS f B).blocks ⟨f.blocks.length+j,[]⟩:=fun {j} h=>by
  obtain ⟨b',h1,h2⟩:=new h
  exact ⟨by simp only;omega,by simp,b',h1,by rw [h2],by rw [h2];simp⟩
 have mm:∀ {α:Type} (g:Ms.Blk->α),g (edB f.blocks.length B)=g B->(edS f B).blocks.map g=(f.blocks++edL f.blocks.length).map g:=fun g hg=>by
  unfold edS
  simp only
  rw [List.map_set,hg]
  apply List.ext_getElem?
  intro i
  rw [List.getElem?_set]
  by_cases e:f.blocks.length - 1=i
  ·subst e
   rw [if_pos rfl,if_pos (by simp;omega),List.getElem?_map,List.getElem?_append_left (by omega),hB]
   rfl
  ·rw [if_neg e]
 refine ⟨⟨by rw [len];omega,k.nv,k.cls,fun b hb=>?_,?_,fun b hb x hx=>?_,fun b hb h=>?_,fun b hb e he=>?_,fun b hb=>?_,fun b hb v hv=>?_⟩,?_⟩
 ·rcases mem hb with h | rfl | rfl | rfl
  ·exact k.blk b h
  ·unfold edB;simp;omega
  ·simp
  ·simp
 ·have:=k.all
  unfold sm
  rw [mm _ rfl,List.map_append,List.sum_append]
  unfold sm at this
  simp [edL]
  omega
 ·rcases mem hb with h | rfl | rfl | rfl
  ·exact k.ins b h x hx
  ·exact k.ins B mB x hx
  ·simp at hx
  ·simp at hx
 ·rcases mem hb with h1 | rfl | rfl | rfl
  ·exact k.par b h1 h
  ·exact hi
  ·simp at h
  ·simp at h
 ·rcases mem hb with h | rfl | rfl | rfl
  ·obtain ⟨h1,h2,t,h3,h4,h5⟩:=k.edg b h e he
   obtain ⟨t',h6,h7⟩:=at_ h3
   exact ⟨h1,h2,t',h6,by rw [h7];exact h4,by rw [h7];exact h5⟩
  ·simp only [edB,List.mem_cons,List.not_mem_nil,or_false] at he
   rcases he with rfl | rfl
   ·exact emp (j:=0) (by omega)
   ·exact emp (j:=1) (by omega)
  ·simp only [List.mem_cons,List.not_mem_nil,or_false] at he
   subst he
   exact emp (j:=1) (by omega)
  ·simp at he
 ·obtain ⟨b0,h0⟩:∃ b0,f.blocks[0]?=some b0:=⟨_,List.getElem?_eq_getElem (by omega)⟩
  obtain ⟨b',h1,h2⟩:=at_ h0
  rw [h1] at hb
  cases hb
  rw [h2]
  exact k.ent b0 h0
 ·rcases mem hb with h | rfl | rfl | rfl
  ·exact k.prm b h v hv
  ·exact k.prm B mB v hv
  ·simp at hv
  ·simp at hv
 ·have e:jc1 (edS f B).blocks=jc1 f.blocks:=by
   unfold jc1
   rw [mm jmw rfl,List.map_append,List.flatten_append]
   simp [edL,jmw]
  unfold jix at on ⊢
  rw [e]
  exact on
attribute [local go_sem] Int.cast_ofNat_Int Int.natCast_zero Int.natCast_one decide_eq_true_eq decide_eq_false_iff_not Bool.false_eq_true and_true true_and List.cons_append List.nil_append reduceCtorEq decide_true decide_false Bool.not_true Bool.not_false Nat.add_zero Nat.zero_add Option.some.injEq Bool.true_eq_false not_true_eq_false not_false_eq_true Hp.next_push Hp.next_put Nat.add_assoc Int.reduceToNat Nat.reduceAdd Nat.reduceMul Nat.reduceEqDiff Int.reduceEq Int.reduceLT Int.reduceLE Int.reduceNeg Int.reduceAdd Int.reduceSub Int.reduceMul Int.reduceNe
attribute [local go_sem ↓] reduceIte
section
variable {h:Hp} {f:Fc} {m:Nat×Nat} {Q:AV->Hp->Prop}
theorem j82 {s:List Bool} (hs:s.length<=4) (hg:grL f.blocks=edG s) (hne:f.blocks≠[]):WC F10 38 [.agg [jai ja0 f.values,jai ja3 f.blocks]] h Q=Q (.s (jai ja0 (qbb s 0))) h :=
 jat ((qa8 rfl rfl).trans (jbj rfl (by simp only [jax,ja1,jba,jcu,ja2,jbb,ja8,jbt,jbc,jbk,if_true]) (by rw [jqk hne,hg];exact jic (qny s hs _ _ _ _).2.1)))
theorem j3m {s:List Bool} (hs:s.length<=4) (hg:grL f.blocks=edG s) (hne:f.blocks≠[]):WC F10 39 [.agg [jai ja0 f.values,jai ja3 f.blocks]] h Q=Q (.s (jai jgi (jg1 (edG s)))) h :=
 jat ((qa8 rfl rfl).trans (jbj rfl (by simp only [jax,ja1,jba,jcu,ja2,jbb,ja8,jbt,jbc,jbk,if_true]) (by rw [jqk hne,hg];exact jic (qny s hs _ _ _ _).2.2)))
end
theorem qjw {pr:List (List Nat)} {b:Blk} (hbe:b.edges.length<=10000) (hp:∀ e∈b.edges,1<b.edges.length->∃ pl,pr[e.block]?=some pl/\pl.length<=1) {bB:Nat} {x0 x1 x2 x3 x12 x13 x14 x15 x16 x17 x18 x19 x20:AV} {Q:Ex->St->Prop} :
 ∀ (d j:Nat) (_:j+d=b.edges.length) {hi:Hp} (_:Ok hi) (_:bB<hi.next) (_:hi.get bB=some (.arr [jai ja0 b.params,jai jea b.instrs,jai jdl b.edges] 36)) {x4 x5 x8:AV}
  (hQ:∀ hj x4 x5 x8,Ok hj->hi.next<=hj.next->(∀ n,n<hi.next->hj.get n=hi.get n)->Q (.exit 2) (.mk [x0,x1,x2,x3,x4,x5,.s (jai jgi pr),.s (jai jdl b.edges),x8,vi b.edges.length,vi b.edges.length,.s (.ptr bB 0),x12,x13,x14,x15,x16,x17,x18,x19,x20] hj)),
  W F10 jek.loop (.mk [x0,x1,x2,x3,x4,x5,.s (jai jgi pr),.s (jai jdl b.edges),x8,vi b.edges.length,vi j,.s (.ptr bB 0),x12,x13,x14,x15,x16,x17,x18,x19,x20] hi) Q
 | 0,j,hd,hi,ok,hB,xB,x4,x5,x8,hQ=>by
  obtain rfl:j=b.edges.length:=by omega
  rw [jan]
  unfold jek
  simp (disch:=first|omega|rfl|apply_rules[jaa,jac,jad]) only [go_sem,Int.lt_irrefl]
  exact hQ hi _ _ _ ok (Nat.le_refl _) (fun _ _=>rfl)
 | d+1,j,hd,hi,ok,hB,xB,x4,x5,x8,hQ=>by
  have hlt:(j:Int)<(b.edges.length:Int):=by omega
  obtain ⟨e,hio⟩:∃ y,b.edges[j]?=some y:=⟨_,List.getElem?_eq_getElem (by omega)⟩
  have hix:=jaj (enc:=jdl) (size:=2) hio rfl
  have hs:(j:Int)+1=((j+1:Nat):Int):=by omega
  obtain ⟨hA,eA,okA,nA,xA,gA⟩:=jcq ok [.int .i64 0,.nilSlice] (jdl e) 51
  have yB:=(gA _ hB).trans xB
  have l2:=jal (enc:=jdl) (l:=b.edges)
  unfold jdl at xA eA
  rw [jan]
  unfold jek jkt
  by_cases h1:1<b.edges.length
  ·have c1:(1<(b.edges.length:Int))=True:=by simp;omega
   obtain ⟨pl,h2,h3⟩:=hp e (List.mem_of_getElem? hio) h1
   have hxp:=jaj (enc:=jgi) (size:=1) h2 rfl
   have l3:=jal (enc:=ja0) (l:=pl)
   have c2:(1<(pl.length:Int))=False:=by simp;omega
   simp (disch:=first|omega|rfl|apply_rules[jaa,jac,jad]) only [go_sem,jag,eq_true hlt,hix,jdl,eA,xA,yB,l2,c1,hxp,jgi,l3,c2,hs]
   exact qjw hbe hp d (j+1) (by omega) okA (by omega) yB (fun hj x4 x5 x8 ok' n g=>hQ hj x4 x5 x8 ok' (by omega) (fun q hq=>(g q (by omega)).trans (gA q hq)))
  ·have c1:(1<(b.edges.length:Int))=False:=by simp;omega
   simp (disch:=first|omega|rfl|apply_rules[jaa,jac,jad]) only [go_sem,jag,eq_true hlt,hix,jdl,eA,xA,yB,l2,c1,hs]
   exact qjw hbe hp d (j+1) (by omega) okA (by omega) yB (fun hj x4 x5 x8 ok' n g=>hQ hj x4 x5 x8 ok' (by omega) (fun q hq=>(g q (by omega)).trans (gA q hq)))
theorem qn0 {pr:List (List Nat)} {f:Fc} {q:Nat} (nb:f.blocks.length<=10000) (hq:q<=f.blocks.length) (hp:∀ (j:Nat) (b:Blk),j<q->f.blocks[j]?=some b->b.edges.length<=10000/\∀ e∈b.edges,1<b.edges.length->∃ pl,pr[e.block]?=some pl/\pl.length<=1) {bF:Nat} {x0 x1 x2 x3 x16 x17 x18 x19:AV} {Q:Ex->St->Prop} :
 ∀ (d j:Nat) (_:j+d=q) {hi:Hp} (_:Ok hi) (_:bF<hi.next) {x4 x5 x7 x8 x9 x10 x11 x13:AV}
  (hQ:∀ hj x4 x5 x7 x8 x9 x10 x11 x13,Ok hj->hi.next<=hj.next->hj.get bF=hi.get bF->W F10 jel.loop (.mk [x0,x1,x2,x3,x4,x5,.s (jai jgi pr),x7,x8,x9,x10,x11,.s (jai ja3 f.blocks),x13,vi f.blocks.length,vi q,x16,x17,x18,x19,.s (.ptr bF 0)] hj) Q),
  W F10 jel.loop (.mk [x0,x1,x2,x3,x4,x5,.s (jai jgi pr),x7,x8,x9,x10,x11,.s (jai ja3 f.blocks),x13,vi f.blocks.length,vi j,x16,x17,x18,x19,.s (.ptr bF 0)] hi) Q
 | 0,j,hd,hi,ok,hB,x4,x5,x7,x8,x9,x10,x11,x13,hQ=>by
  obtain rfl:j=q:=by omega
  exact hQ hi _ _ _ _ _ _ _ _ ok (Nat.le_refl _) rfl
 | d+1,j,hd,hi,ok,hB,x4,x5,x7,x8,x9,x10,x11,x13,hQ=>by
  have hlt:(j:Int)<(f.blocks.length:Int):=by omega
  obtain ⟨b,hio⟩:∃ y,f.blocks[j]?=some y:=⟨_,List.getElem?_eq_getElem (by omega)⟩
  obtain ⟨hbe,hpb⟩:=hp j b (by omega) hio
  have hix:=jaj (enc:=ja3) (size:=3) hio rfl
  have hs:(j:Int)+1=((j+1:Nat):Int):=by omega
  obtain ⟨hA,eA,okA,nA,xA,gA⟩:=jcq ok [.nilSlice,.nilSlice,.nilSlice] (ja3 b) 36
  have l2:=jal (enc:=jdl) (l:=b.edges)
  unfold ja3 at xA eA
  rw [jan]
  unfold jel jku
  simp (disch:=first|omega|rfl|apply_rules[jaa,jac,jad]) only [go_sem,jag,eq_true hlt,hix,ja3,eA,xA,l2]
  refine qjw hbe hpb b.edges.length 0 (by omega) okA (by omega) xA (fun hj x4 x5 x8 ok' n g=>?_)
  simp (disch:=first|omega|rfl|apply_rules[jaa,jac,jad]) only [go_sem,jag,hs]
  exact qn0 nb hq hp d (j+1) (by omega) ok' (by omega) (fun hk x4 x5 x7 x8 x9 x10 x11 x13 o' n' g'=>hQ hk x4 x5 x7 x8 x9 x10 x11 x13 o' (by omega) (g'.trans ((g _ (by omega)).trans (gA _ hB))))
structure EdOk (m:Nat×Nat) (f:Fc) (s:List Bool) (u:Nat):Prop where
 k:FcOk m f
 on:jix f=0
 hs:s.length<=4
 hu:u=3*s.length+1
 hg:grL f.blocks=edG s
 b:∃ b,f.blocks[3*s.length]?=some b/\b.edges=[⟨u,[]⟩,⟨u+1,[]⟩]
 lo:∀ (j:Nat) (b:Blk),j<3*s.length->f.blocks[j]?=some b->∀ e∈b.edges,1<b.edges.length->∃ pl,(jg1 (edG s))[e.block]?=some pl/\pl.length<=1
theorem qbd {h:Hp} (ok:Ok h) {m:Nat×Nat} {f:Fc} {s:List Bool} {u:Nat} (o:EdOk m f s u) (m1:2<=m.1/\m.1<=10) (m2:2<=m.2/\m.2<=10):WC F10 22 [.agg [jai ja0 f.values,jai ja3 f.blocks],.agg [si m.1,si m.2]] h (fun v h'=>∃ d,jhl true h' d v=some (vi 11)):=by
 refine jbe (qqh rfl rfl rfl rfl rfl rfl rfl rfl rfl rfl) j8i rfl ?_
 unfold ju0
 have nb:=o.k.nb
 have hne:f.blocks≠[]:=List.length_pos_iff.1 (by omega)
 have hu:=o.hu
 have hlen:f.blocks.length=3+3*s.length:=by rw [←jdx,o.hg];unfold edG;rw [List.length_append,List.length_modify,jrz];simp;omega
 obtain ⟨q,eq⟩:∃ q,3*s.length=q:=⟨_,rfl⟩
 obtain ⟨B,hB,hBe⟩:=o.b
 obtain ⟨pa,ha1,ha2⟩:=(edX o.hs).a
 obtain ⟨pb,hb1,hb2⟩:=(edX o.hs).b
 have lo:=o.lo
 rw [eq] at hB lo
 rw [←hu] at ha1
 rw [show 3*s.length+2=u+1 by omega] at hb1
 obtain ⟨hA,eA,okA,nA,xA,gA⟩:=je1 ok [jai ja0 f.values,jai ja3 f.blocks] 26
 obtain ⟨hB',eB,okB,nB,xB,gB⟩:=je1 okA [si m.1,si m.2] 30
 have yA:=(gB _ (by omega)).trans xA
 rw [nA] at xB
 have l2:=jal (enc:=ja3) (l:=f.blocks)
 have l3:=jal (enc:=ja0) (l:=qbb s 0)
 have c1:(((qbb s 0).length:Int)<(f.blocks.length:Int))=False:=eq_false (by rw [ju4,hlen];omega)
 have hh:(hB'.next<=h.next/\h.next<hB'.next)=False:=eq_false (by omega)
 simp (disch:=first|omega|rfl|apply_rules[jaa,jac,jad]) only [go_sem,eA,eB,nA,yA,xB,j8y o.k o.on m1 m2]
 unfold jqi jqg
 simp (disch:=first|omega|rfl|apply_rules[jaa,jac,jad]) only [go_sem,yA,xB,j82 o.hs o.hg hne,l3,l2,c1,hh]
 unfold jqh
 simp (disch:=first|omega|rfl|apply_rules[jaa,jac,jad]) only [go_sem,yA,j3m o.hs o.hg hne,l2]
 refine qn0 (q:=q) (by omega) (by omega) (fun j b hj hb=>⟨by have:=o.k.blk b (List.mem_of_getElem? hb);omega,lo j b hj hb⟩) q 0 (by omega) okB (by omega) (fun hj x4 x5 x7 x8 x9 x10 x11 x13 okj n g=>?_)
 have hlt:(q:Int)<(f.blocks.length:Int):=by omega
 have hix:=jaj (enc:=ja3) (size:=3) hB rfl
 obtain ⟨hC,eC,okC,nC,xC,gC⟩:=jcq okj [.nilSlice,.nilSlice,.nilSlice] (ja3 B) 36
 have l4:ju6 (.s (jai jdl B.edges))=some (vi 2):=by rw [hBe];rfl
 unfold ja3 at xC eC
 rw [jan]
 unfold jel jku
 simp (disch:=first|omega|rfl|apply_rules[jaa,jac,jad]) only [go_sem,jag,eq_true hlt,hix,ja3,eC,xC,l4]
 have hx0:=jaj (enc:=jdl) (size:=2) (l:=B.edges) (i:=0) (a:=⟨u,[]⟩) (by rw [hBe];rfl) rfl
 have hx1:=jaj (enc:=jdl) (size:=2) (l:=B.edges) (i:=1) (a:=⟨u+1,[]⟩) (by rw [hBe];rfl) rfl
 have e0:((0:Nat):Int)=0:=rfl
 have e1:((1:Nat):Int)=1:=rfl
 rw [e0] at hx0
 rw [e1] at hx1
 obtain ⟨hD,eD,okD,nD,xD,gD⟩:=jcq okC [.int .i64 0,.nilSlice] (jdl ⟨u,[]⟩) 51
 obtain ⟨hE,eE,okE,nE,xE,gE⟩:=jcq okD [.int .i64 0,.nilSlice] (jdl ⟨u+1,[]⟩) 51
 have yC:=(gD _ (by omega)).trans xC
 have zC:=(gE _ (by omega)).trans yC
 have hp0:=jaj (enc:=jgi) (size:=1) ha1 rfl
 have hp1:=jaj (enc:=jgi) (size:=1) hb1 rfl
 have p0:=jal (enc:=ja0) (l:=pa)
 have p1:=jal (enc:=ja0) (l:=pb)
 have d0:(1<(pa.length:Int))=False:=by simp;omega
 have d1:(1<(pb.length:Int))=True:=by simp;omega
 unfold jdl at eD xD eE xE
 rw [jan]
 unfold jek jkt
 simp (disch:=first|omega|rfl|apply_rules[jaa,jac,jad]) only [go_sem,jag,hx0,jdl,eD,xD,yC,l4,hp0,jgi,p0,d0]
 rw [jan]
 simp (disch:=first|omega|rfl|apply_rules[jaa,jac,jad]) only [go_sem,jag,hx1,jdl,eE,xE,zC,l4,hp1,jgi,p1,d1]
 exact ⟨1,rfl⟩
section
variable {h:Hp} {f:Fc} {m:Nat×Nat} {x:AV} {na nb:List Nat} {Q:AV->Hp->Prop}
theorem j83 {s:List Bool} {u:Nat} (o:OF h x f na nb) (k:EdOk m f s u) (m1:2<=m.1/\m.1<=10) (m2:2<=m.2/\m.2<=10):WC F11 22 [x,.agg [si m.1,si m.2]] h Q=Q (vi 11) h :=
 jat (o.call2 (List.length_pos_iff.1 (by have:=k.k.nb;omega)) rfl (qbd jes k m1 m2))
theorem qbe {s:List Bool} (o:OF h x f na nb) (k:FlOk m f s) (m1:2<=m.1/\m.1<=10) (m2:2<=m.2/\m.2<=10):WC F11 22 [x,.agg [si m.1,si m.2]] h Q=Q (vi 0) h :=
 jat (o.call2 (List.length_pos_iff.1 (by have:=k.k.nb;omega)) rfl (qjt jes k m1 m2))
end
theorem qjx {m:Nat×Nat} {f:Fc} {s:List Bool} {B:Ms.Blk} (o:FlOk m f s) (hs:s.length<=4) (hB:f.blocks[f.blocks.length - 1]?=some B) (hi:B.instrs≠[]):EdOk m (edS f B) s f.blocks.length:=by
 have hlen:=o.len
 obtain ⟨k1,k2⟩:=qqs o.k (by omega) hB hi o.on
 refine ⟨k1,k2,hs,by omega,qnz o.hg o.len,⟨edB f.blocks.length B,?_,rfl⟩,fun j b hj hb e he h1=>?_⟩
 ·unfold edS
  simp only
  rw [show 3*s.length=f.blocks.length - 1 by omega,List.getElem?_set,if_pos rfl,if_pos (by simp;omega)]
 ·have hb':f.blocks[j]?=some b:=by
   unfold edS at hb
   simp only at hb
   rw [List.getElem?_set,if_neg (by omega),List.getElem?_append_left (by omega)] at hb
   exact hb
  have hm:jwz b∈(gS s).take (3*s.length):=by
   refine List.mem_of_getElem? (i:=j) ?_
   rw [List.getElem?_take,if_pos hj,←o.hg]
   unfold grL
   rw [List.getElem?_map,hb']
   rfl
  have h2:=((edX hs).pos _ hm).2.resolve_left (by unfold jwz;rw [List.length_map];omega)
  exact h2 e.block (List.mem_map.2 ⟨e,he,rfl⟩)
set_option maxHeartbeats 4000000
theorem OF.setE {h:Hp} {a b:SV} {f:Fc} {na nb:List Nat} (o:OF h (.agg [a,b]) f na nb) (ok:Ok h) {k:Nat} {B:Ms.Blk} (hk:f.blocks[k]?=some B) {N:Nat} (hN:∀ n∈na++nb,n<N) {v:SV} {es:List Ms.Edg} {ex:Bool} {ms:List Nat}
 (hv:∀ h',(∀ n∈ms,h'.get n=h.get n)->Sl h' 51 2 ex (OE h') v es ms) (hm:ms.Nodup) (hf:∀ n∈ms,N<=n/\n<h.next) :
 ∃ bb cells cells' nb',jxh 3 (.s b) (vi (k:Int))=some (.s (.ptr bb (k*3)))/\h.get bb=some (.arr cells 36)/\jbq (k*3+2) [v] cells=some cells'/\bb∈nb/\1<=bb/\OF (h.put bb (some (.arr cells' 36))) (.agg [a,b]) ⟨f.values,f.blocks.set k { B with edges:=es }⟩ na nb':=by
 obtain ⟨bb,p,i,e,np,ni,ne,ex0,M1,M2,cells,e1,e2,e3,h1,h2,h3,rfl,up⟩:=o.at hk
 have lt:=o.lt
 have nd:=o.nd
 have hbb:=lt bb (by simp)
 have nd2:=(List.nodup_append.1 nd)
 have nd3:=List.nodup_cons.1 nd2.2.1
 have nd4:=List.nodup_append.1 nd3.2
 have nd5:=List.nodup_append.1 nd4.2.1
 have nd6:=List.nodup_append.1 nd5.1
 have nd7:=List.nodup_append.1 nd6.2.1
 obtain ⟨cells',e5,fin⟩:=up (j:=2) (v:=v) (by omega)
 obtain ⟨hP,eP,okP,nP,xP,gP⟩:=qju ok hbb.1 (some (.arr cells' 36))
 have bms:bb∉ms:=fun hc=>by have:=hf _ hc;have:=hN bb (by simp);omega
 refine ⟨bb,cells,cells',bb::(M1++((np++(ni++ms))++M2)),e1,e2,e5,by simp,hbb.1,?_⟩
 rw [eP]
 refine fin (N:=N) (B':={ B with edges:=es }) (ms':=np++(ni++ms)) hN xP ⟨p,i,v,np,ni,ms,ex,rfl,h1.keep (fun n hn=>gP n (fun e=>nd3.1 (by rw [←e];simp [hn]))),h2.imp (fun n hn=>gP n (fun e=>nd3.1 (by rw [←e];simp [hn]))) (fun row a m hm' e'=>e'.keep (fun n hn=>gP n (fun e=>nd3.1 (by rw [←e];simp [hm' n hn])))),hv hP (fun n hn=>gP n (fun e=>bms (e▸hn))),rfl⟩ ?_ (by omega) ?_ ?_
 ·intro n hn
  refine gP n (fun e=>?_)
  subst e
  rcases List.mem_append.1 hn with h4 | h4
  ·exact nd2.2.2 n h4 n (by simp) rfl
  ·rcases List.mem_append.1 h4 with h4 | h4
   ·exact nd3.1 (by simp [h4])
   ·exact nd3.1 (by simp [h4])
 ·refine List.nodup_append.2 ⟨nd6.1,List.nodup_append.2 ⟨nd7.1,hm,fun u hu v hv e=>?_⟩,fun u hu v hv e=>?_⟩
  ·have:=hN u (by simp [hu]);have:=hf v hv;omega
  ·rcases List.mem_append.1 hv with hv | hv
   ·exact nd6.2.2 u hu v (by simp [hv]) e
   ·have:=hN u (by simp [hu]);have:=hf v hv;omega
 ·intro n hn
  rcases List.mem_append.1 hn with h4 | h4
  ·have:=lt n (by simp [h4]);exact ⟨.inl (by simp [h4]),by omega⟩
  ·rcases List.mem_append.1 h4 with h4 | h4
   ·have:=lt n (by simp [h4]);exact ⟨.inl (by simp [h4]),by omega⟩
   ·have:=hf n h4;exact ⟨.inr this.1,by omega⟩
theorem qn1 {h:Hp} {f:Fc} {ga gb:SV} {na nb:List Nat} (o:OF h (.agg [ga,gb]) f na nb) {bx:Nat} (xF:h.get bx=some (.arr [ga,gb] 26)) {n u:Nat} (hn:f.blocks.length=u) (hu:n+1=u) (hn2:n<=10000) (hpos:∀ (j:Nat) (b:Ms.Blk),j<n->f.blocks[j]?=some b->0<b.edges.length) (hl:∃ b,f.blocks[n]?=some b/\b.edges=[]) {x0 x1 x2 x3 x5 x11 x13:AV} {Q:Ex->St->Prop}
 (hQ:∀ x6 x7 x8,Q (.exit 0) (.mk [x0,x1,x2,x3,vi n,x5,x6,x7,x8,vi u,vi u,x11,.s (.ptr bx 0),x13] h)) :
 ∀ (d j:Nat) (_:j+d=n) {x4 x6 x7 x8:AV},W F11 ju3.loop (.mk [x0,x1,x2,x3,x4,x5,x6,x7,x8,vi u,vi j,x11,.s (.ptr bx 0),x13] h) Q
 | 0,j,hd,x4,x6,x7,x8=>by
  obtain rfl:j=n:=by omega
  have hlt:(j:Int)<(u:Int):=by omega
  have hs:(j:Int)+1=(u:Int):=by omega
  obtain ⟨b,hb,he⟩:=hl
  obtain ⟨bb,p,i,e,np,ni,ne,ex,M1,M2,cells,e1,e2,e3,h1,h2,h3,_,_⟩:=o.at hb
  have r7:=qdk (j:=2) e3 rfl rfl
  have le:=h3.len
  rw [he] at le
  have le':ju6 (.s e)=some (vi 0):=le
  rw [jan]
  unfold ju3 jzt
  simp (disch:=first|omega|rfl|apply_rules[jaa,jac,jad]) only [go_sem,jag,eq_true hlt,xF,e1,r7,le',hs]
  rw [jan]
  simp (disch:=first|omega|rfl|apply_rules[jaa,jac,jad]) only [go_sem,Int.lt_irrefl]
  exact hQ _ _ _
 | d+1,j,hd,x4,x6,x7,x8=>by
  have hlt:(j:Int)<(u:Int):=by omega
  have hs:(j:Int)+1=((j+1:Nat):Int):=by omega
  obtain ⟨b,hb⟩:∃ b,f.blocks[j]?=some b:=⟨_,List.getElem?_eq_getElem (by omega)⟩
  have hp:=hpos j b (by omega) hb
  obtain ⟨bb,p,i,e,np,ni,ne,ex,M1,M2,cells,e1,e2,e3,h1,h2,h3,_,_⟩:=o.at hb
  have r7:=qdk (j:=2) e3 rfl rfl
  have le:=h3.len
  have c1:((b.edges.length:Int)=0)=False:=eq_false (by omega)
  rw [jan]
  unfold ju3 jzt
  simp (disch:=first|omega|rfl|apply_rules[jaa,jac,jad]) only [go_sem,jag,eq_true hlt,xF,e1,r7,le,c1,hs]
  exact qn1 o xF hn hu hn2 hpos hl hQ d (j+1) (by omega)
theorem qbf {h:Hp} (ok:Ok h) {a b:Int} {l:List Pc} (ha:In6 a) (hb:In6 b) (pin:∀ q∈l,Pin q) {xl:SV} (lx:LstE jb6 7 xl l):WC F11 7 [vi a,vi b,.s xl] h (fun v _=>v=.s (.bool true)):=by
 refine jbe (qq9 rfl rfl rfl rfl rfl rfl rfl rfl rfl rfl rfl) qqr rfl ?_
 unfold qdl
 obtain ⟨m1,m2⟩:=qfs a b
 obtain ⟨m,em⟩:∃ m,juf a b=m:=⟨_,rfl⟩
 rw [em] at m1 m2
 obtain ⟨s,o,kp,_⟩:=qjs m1 m2 l
 obtain ⟨B,hB,hBi⟩:=j3l m l
 obtain ⟨f,ef⟩:∃ f,jei m l=f:=⟨_,rfl⟩
 rw [ef] at o kp hB
 have hpos:=ok.pos
 have knb:=o.k.nb
 obtain ⟨hA,eA,okA,nA,xA,gA⟩:=jcq ok [.int .i64 0,.int .i64 0] [si m.1,si m.2] 30
 simp (disch:=first|omega|rfl|apply_rules[jaa,jac,jad]) only [go_sem,jxc ha hb,em,qli,eA,xA,j8z m1 m2 pin lx,ef]
 refine WC.imp (qjv okA (qnh o.k) (qq9 rfl rfl rfl rfl rfl rfl rfl rfl rfl rfl rfl) rfl) ?_
 rintro v hC ⟨na,nb,oC,okC,nC,gC,lC⟩
 obtain ⟨ga,gb,rfl⟩:∃ ga gb,v=AV.agg [ga,gb]:=by obtain ⟨⟨a,b,e,_⟩,_⟩:=oC;exact ⟨a,b,e⟩
 obtain ⟨hD,eD,okD,nD,xD,gD⟩:=jcq okC [.nilSlice,.nilSlice] [ga,gb] 26
 have oD:=oC.keep (h':=hD) (fun n hn=>gD n (oC.lt n hn).2) (by omega)
 have lb:ju6 (.s gb)=some (vi f.blocks.length):=by obtain ⟨⟨a,b,e,_,s⟩,_⟩:=oD;cases e;exact s.len
 have pD:hD.get h.next=some (.arr [si m.1,si m.2] 30):=by rw [gD _ (by omega),gC _ (by omega)];exact xA
 have hlen:=o.len
 have hsl:=o.hs
 obtain ⟨u,eu⟩:∃ u,f.blocks.length=u:=⟨_,rfl⟩
 by_cases h5:s.length=5
 ·have c1:(16<((f.blocks.length:Nat):Int)+2)=True:=eq_true (by omega)
  simp (disch:=first|omega|rfl|apply_rules[jaa,jac,jad]) only [go_sem,jag,eD,xD,lb,c1,pD,qbe oD o m1 m2]
 ·have hs4:s.length<=4:=by omega
  have edk:=qjx o hs4 hB hBi
  rw [eu] at edk hB lb
  obtain ⟨n,hn⟩:∃ n,n+1=u:=⟨u - 1,by omega⟩
  have en:u - 1=n:=by omega
  rw [en] at hB
  have c1:(16<(u:Int)+2)=False:=eq_false (by omega)
  have hs1:(u:Int)+1=((u+1:Nat):Int):=by omega
  simp (disch:=first|omega|rfl|apply_rules[jaa,jac,jad]) only [go_sem,jag,eD,xD,lb,c1]
  unfold j80
  simp (disch:=first|omega|rfl|apply_rules[jaa,jac,jad]) only [go_sem,jag,xD,lb]
  have hX:=edX hs4
  have gr:∀ (j:Nat) (b:Ms.Blk),f.blocks[j]?=some b->(gS s)[j]?=some (jwz b):=fun j b hb=>by
   rw [←o.hg];unfold grL;rw [List.getElem?_map,hb];rfl
  have hne:B.edges=[]:=by
   have h1:=gr n B hB
   rw [show n=3*s.length by omega,hX.e] at h1
   have h2:jwz B=[]:=(Option.some.inj h1).symm
   exact List.map_eq_nil_iff.1 h2
  refine qn1 oD xD eu hn (by omega) (fun j b hj hb=>?_) ⟨B,hB,hne⟩ (fun x6 x7 x8=>?_) n 0 (by omega)
  ·have h1:=(hX.pos (jwz b) (List.mem_of_getElem? (i:=j) (by rw [List.getElem?_take,if_pos (by omega)];exact gr j b hb))).1
   unfold jwz at h1
   rwa [List.length_map] at h1
  obtain ⟨hE,eE,okE,nE,xE,gE⟩:=je1 okD [si ((u+1:Nat):Int),.nilSlice] 51
  obtain ⟨hF,eF,okF,nF,xF,gF⟩:=je1 okE [.nilSlice,.nilSlice,.slice hD.next 0 1 1 true 2,.nilSlice,.nilSlice,.nilSlice] 36
  have oF:=oD.keep (h':=hF) (fun n hn=>by have:=(oD.lt n hn).2;rw [gF n (by omega),gE n this]) (by omega)
  have xEF:=(gF _ (by omega)).trans xE
  obtain ⟨gb',hG,nb',eG,okG,nG,gG,oG,lG⟩:=oF.addB okF (by omega) (bb:=hE.next) (rows:=[[.nilSlice,.nilSlice,.slice hD.next 0 1 1 true 2],[.nilSlice,.nilSlice,.nilSlice]]) (l:=edL u) (ms:=([]++([]++[hD.next]))++(([]++([]++[]))++[])) (by rw [xF];rfl)
   (.cons rfl ⟨_,_,_,[],[],[hD.next],true,rfl,.nil,.nil,.inr ⟨by simp,hD.next,[[si ((u+1:Nat):Int),.nilSlice]],[],rfl,xEF,.cons (ns:=[]) rfl ⟨_,rfl,.nil⟩ .nil,rfl⟩,rfl⟩ (.cons rfl ⟨_,_,_,[],[],[],false,rfl,.nil,.nil,.nil,rfl⟩ .nil)) (by simp [edL]) (by simp [edL]) (by simp) (N:=hC.next) (by omega) (fun n hn=>(oC.lt n hn).2) (by omega) (fun n hn=>by simp at hn;omega)
  have ncb:hC.next∉nb':=fun hc=>by
   rcases lG _ hc with h1 | h1 | h1
   ·have:=oC.lt _ (List.mem_append_right _ h1);omega
   ·simp at h1;omega
   ·omega
  have yD:=(gG hC.next (by omega) (fun hc=>by have:=oC.lt _ (List.mem_append_right _ hc);omega)).trans ((gF _ (by omega)).trans ((gE _ (by omega)).trans xD))
  have yA:=(gG h.next (by omega) (fun hc=>by have:=lC _ (List.mem_append_right _ hc);omega)).trans ((gF _ (by omega)).trans ((gE _ (by omega)).trans pD))
  obtain ⟨hH,eH,okH,nH,xH,gH⟩:=qju okG (b:=hC.next) (by omega) (some (.arr [ga,gb'] 26))
  have oH:=oG.keep (h':=hH) (fun n hn=>gH n (fun e=>by
   subst e
   rcases List.mem_append.1 hn with hn | hn
   ·have:=oC.lt _ (List.mem_append_left _ hn);omega
   ·exact ncb hn)) (by omega)
  obtain ⟨hI,eI,okI,nI,xI,gI⟩:=je1 okH [si u,.nilSlice,si ((u+1:Nat):Int),.nilSlice] 51
  have oI:=oH.keep (h':=hI) (fun n hn=>gI n (oH.lt n hn).2) (by omega)
  have hBu:(f.blocks++edL u)[n]?=some B:=by rw [List.getElem?_append_left (by omega)];exact hB
  obtain ⟨bb,cells,cells',nb2,r1,r2,r3,r4,r5,oP⟩:=oI.setE okI hBu (N:=hH.next) (fun n hn=>(oH.lt n hn).2) (v:=.slice hH.next 0 2 2 true 2) (es:=[⟨u,[]⟩,⟨u+1,[]⟩]) (ex:=true) (ms:=[hH.next])
   (fun h' hk=>.inr ⟨by simp,hH.next,[[si u,.nilSlice],[si ((u+1:Nat):Int),.nilSlice]],[],rfl,(hk _ (by simp)).trans xI,.cons (ns:=[]) rfl ⟨_,rfl,.nil⟩ (.cons (ns:=[]) rfl ⟨_,rfl,.nil⟩ .nil),rfl⟩) (by simp) (fun n hn=>by rw [List.mem_singleton.1 hn];omega)
  obtain ⟨hP,eP,okP,nP,xP,gP⟩:=qju okI r5 (some (.arr cells' 36))
  rw [eP] at oP
  have bF:hC.next≠bb:=fun e=>ncb (e▸r4)
  have bA:h.next≠bb:=fun e=>by
   rcases lG _ r4 with h1 | h1 | h1
   ·have:=lC _ (List.mem_append_right _ h1);omega
   ·simp at h1;omega
   ·omega
  have zD:=(gP _ bF).trans ((gI _ (by omega)).trans xH)
  have zA:=(gP _ bA).trans ((gI _ (by omega)).trans ((gH _ (by omega)).trans yA))
  have zI:=(gI _ (by omega)).trans xH
  have eG':jo9 hF 36 3 72 (.s gb) (.s (.slice hE.next 0 2 2 true 3))=some (.s gb',hG):=eG
  have ePS:(⟨f.values,(f.blocks++edL u).set n { B with edges:=[⟨u,[]⟩,⟨u+1,[]⟩] }⟩:Fc)=edS f B:=by
   unfold edS edB
   rw [eu,en]
  rw [ePS] at oP
  simp (disch:=first|omega|rfl|apply_rules[jaa,jac,jad]) only [go_sem,jag,xD,lb,hs1,eE,eF,eG',yD,eH,xH,eI,r1,r2,r3,eP,zD,zA,zI,j83 oP edk m1 m2]
end Go.Proofs.Ytaljcpoopmedmaa.Ev
