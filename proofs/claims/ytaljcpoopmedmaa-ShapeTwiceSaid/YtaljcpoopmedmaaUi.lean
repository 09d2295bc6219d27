/- Is each value made where it is used? What the code tells. -/
import Derived.Test.YtaljcpoopmedmaaUe
import Derived.Test.YtaljcpoopmedmaaGT1
import Derived.Test.YtaljcpoopmedmaaGT3
import Derived.Test.YtaljcpoopmedmaaGT5
import Derived.Test.YtaljcpoopmedmaaGT7
namespace Go.Proofs.Ytaljcpoopmedmaa.Ev
open Go Go.RowKit Go.Proofs.Ytaljcpoopmedmaa.Ms
set_option linter.all false
set_option maxRecDepth 100000
set_option maxHeartbeats 2000000
def S8 (f:FuncId):Bool:=Nat.beq f 74||(Nat.beq f 61||(Nat.beq f 38||(Nat.beq f 39||(Nat.beq f 41||Nat.beq f 42))))
noncomputable def F8:Fns:=PX S8 F7
theorem qmf {A:Nat->Int}:Env Try.prog A tys F8:=jh3 qlp
theorem no8 {f:FuncId} (h1:S1 f=false) (h2:Nat.beq f jf7.f=false) (h3:S3 f=false) (h4:S4 f=false) (h5:S5 f=false) (h6:S6 f=false) (h7:S7 f=false) (h8:S8 f=false) {vs:List AV} {h:Hp}:jdy F8 f vs h=none:=(ja4 h8).trans (no7 h1 h2 h3 h4 h5 h6 h7)
def S9 (f:FuncId):Bool:=Nat.beq f 62
noncomputable def F9:Fns:=PX S9 F8
theorem qmg {A:Nat->Int}:Env Try.prog A tys F9:=jh3 qmf
theorem no9 {f:FuncId} (h1:S1 f=false) (h2:Nat.beq f jf7.f=false) (h3:S3 f=false) (h4:S4 f=false) (h5:S5 f=false) (h6:S6 f=false) (h7:S7 f=false) (h8:S8 f=false) (h9:S9 f=false) {vs:List AV} {h:Hp}:jdy F9 f vs h=none:=(ja4 h9).trans (no8 h1 h2 h3 h4 h5 h6 h7 h8)
def KP (idom:List Int) (p:Nat×Int) (k:Nat) (i:Nat):Prop:=(p.1=k/\p.2<(i:Int))∨(p.1≠k/\Dom idom p.1 k)
def KT (idom:List Int) (T:List (Nat×Int)) (v k i:Nat):Prop:=∃ p,T[v]?=some p/\KP idom p k i
structure UsOk (idom:List Int) (f:Fc):Prop where
 nb:f.blocks.length<=10000
 sz:∀ b∈f.blocks,b.instrs.length<=10000/\b.edges.length<=10000
 us:∀ (k i:Nat) (b:Blk) (x:Ms.Ins),f.blocks[k]?=some b->b.instrs[i]?=some x->x.ops.length<=6/\∀ o∈x.ops,o.kind=1->KT idom (jwp f) o.value k i
 ed:∀ (k:Nat) (b:Blk) (e:Ms.Edg),f.blocks[k]?=some b->e∈b.edges->e.args.length<=10000/\∀ v∈e.args,KT idom (jwp f) v k b.instrs.length
theorem jze {α β:Type} (g:α->β):∀ (l:List α),(l.map (fun v=>(v,g v))).map (·.1)=l
 | []=>rfl
 | a::l=>congrArg (a::·) (jze g l)
theorem qav (b i:Nat) (ops:List Ms.Opd):(evO b i ops).map (·.1)=dfO ops:=jze _ _
theorem j1q (b:Nat):∀ (l:List Ms.Ins) (i:Nat),(evI b i l).map (·.1)=(l.map jcg).flatten
 | [],i=>rfl
 | x::l,i=>by
  unfold evI
  rw [List.map_append,qav,j1q b l]
  rfl
theorem jum:∀ (l:List Blk) (k:Nat),(evL k l).map (·.1)=jbp l
 | [],k=>rfl
 | b::l,k=>by
  unfold evL evB evP
  rw [List.map_append,List.map_append,j1q,jum l,jze]
  simp [jbp,jmr]
theorem j8a {b v:Nat} {y:Ms.Ins} (hv:v∈jcg y):∀ {l:List Ms.Ins} {i j:Nat},l[i]?=some y->(v,(b,((j+i:Nat):Int)))∈evI b j l
 | [],i,j,h=>by simp at h
 | x::l,0,j,h=>by
  simp only [List.getElem?_cons_zero,Option.some.injEq] at h
  subst h
  unfold evI
  exact List.mem_append_left _ (List.mem_map.2 ⟨v,hv,rfl⟩)
 | x::l,i+1,j,h=>by
  simp only [List.getElem?_cons_succ] at h
  unfold evI
  have:=j8a (b:=b) hv (j:=j+1) h
  rw [show j+1+i=j+(i+1) by omega] at this
  exact List.mem_append_right _ this
theorem j8b {v b:Nat} {n:Int}:∀ {l:List Blk} {k:Nat} {i:Nat},b=k+i->jzd l v i n->(v,(b,n))∈evL k l
 | [],k,i,e,h=>by
  obtain ⟨x,h1,_⟩:=h
  simp at h1
 | x::l,k,0,e,h=>by
  obtain ⟨y,h1,h2⟩:=h
  simp only [List.getElem?_cons_zero,Option.some.injEq] at h1
  subst h1
  rw [Nat.add_zero] at e
  subst e
  unfold evL evB
  refine List.mem_append_left _ ?_
  rcases h2 with ⟨rfl,h2⟩ | ⟨i,y,rfl,h2,h3⟩
  ·exact List.mem_append_left _ (List.mem_map.2 ⟨v,h2,rfl⟩)
  ·have:=j8a (b:=b) h3 (j:=0) h2
   rw [Nat.zero_add] at this
   exact List.mem_append_right _ this
 | x::l,k,i+1,e,h=>by
  unfold evL
  refine List.mem_append_right _ (j8b (i:=i) (by omega) ?_)
  obtain ⟨y,h1,h2⟩:=h
  exact ⟨y,by simpa using h1,h2⟩
theorem j8c {v:Nat}:∀ (l:List (Nat×(Nat×Int))) (T:List (Nat×Int)),v∉l.map (·.1)->(spF T l)[v]?=T[v]?
 | [],T,_=>rfl
 | e::l,T,h=>by
  simp only [List.map_cons,List.mem_cons,not_or] at h
  show (spF (T.set e.1 e.2) l)[v]?=_
  rw [j8c l _ h.2,List.getElem?_set_ne (fun x=>h.1 x.symm)]
theorem j8d {v:Nat} {p:Nat×Int}:∀ (l:List (Nat×(Nat×Int))) (T:List (Nat×Int)),(l.map (·.1)).Nodup->v<T.length->(v,p)∈l->(spF T l)[v]?=some p
 | [],T,_,_,h=>by cases h
 | e::l,T,hd,hv,h=>by
  rw [List.map_cons,List.nodup_cons] at hd
  show (spF (T.set e.1 e.2) l)[v]?=_
  rcases List.mem_cons.1 h with rfl | h
  ·rw [j8c l _ hd.1,List.getElem?_set_self hv]
  ·exact j8d l _ hd.2 (by rw [List.length_set];exact hv) h
theorem qaw {f:Fc} (hm:(jbp f.blocks).Perm (List.range f.values.length)) {v b:Nat} {n:Int} (h:jzd f.blocks v b n):(jwp f)[v]?=some (b,n):=by
 have hmem:=j8b (k:=0) (i:=b) (Nat.zero_add b).symm h
 have hk:v∈jbp f.blocks:=by rw [←jum f.blocks 0];exact List.mem_map.2 ⟨_,hmem,rfl⟩
 have hv:v<f.values.length:=List.mem_range.1 (hm.mem_iff.1 hk)
 unfold jwp
 exact j8d _ _ (by rw [jum];exact hm.nodup_iff.2 List.nodup_range) (by rw [List.length_replicate];exact hv) hmem
theorem juk.kt {f:Fc} (hm:(jbp f.blocks).Perm (List.range f.values.length)) {idom:List Int} {v k i:Nat} (h:juk idom f.blocks v k i):KT idom (jwp f) v k i:=by
 obtain ⟨b,n,h1,h2⟩:=h
 exact ⟨(b,n),qaw hm h1,h2⟩
def gPs (l:List Blk) (k:Nat):SV:=jak ja5 (l.getD k jha).params
def gIs (l:List Blk) (k:Nat):SV:=jak jhi (l.getD k jha).instrs
def gAs (l:List Blk) (k j:Nat):SV:=jak ja5 ((l.getD k jha).edges.getD j ⟨0,[]⟩).args
theorem j8e (a:Nat->SV):∀ (r p:List Ms.Edg),(∀ j,a j=jak ja5 ((p++r).getD j ⟨0,[]⟩).args)->qjj a p.length (r.map (·.block))=r.map jmo
 | [],p,h=>rfl
 | e::r,p,h=>by
  show [si e.block,a p.length]::qjj a (p.length+1) (r.map (·.block))=jmo e::r.map jmo
  have h1:a p.length=jak ja5 e.args:=by
   rw [h,List.getD_eq_getElem?_getD,List.getElem?_append_right (Nat.le_refl _)];simp
  have h2:=j8e a r (p++[e]) (fun j=>by rw [h];simp)
  rw [List.length_append] at h2
  rw [h1]
  exact congrArg _ h2
theorem qf9 (a:Nat->SV) (l:List Ms.Edg) (h:∀ j,a j=jak ja5 (l.getD j ⟨0,[]⟩).args):qjk a (l.map (·.block))=jak jmo l:=by
 cases l with
 | nil=>rfl
 | cons e r =>
  have:=j8e a (e::r) [] (by simpa using h)
  exact congrArg SV.lst this
theorem j1r (l:List Blk):∀ (r p:List Blk),p++r=l->j7w (gPs l) (gIs l) (gAs l) p.length (grL r)=r.map ja7
 | [],p,h=>rfl
 | b::r,p,h=>by
  have hb:l.getD p.length jha=b:=by rw [←h,List.getD_eq_getElem?_getD,List.getElem?_append_right (Nat.le_refl _)];simp
  show [gPs l p.length,gIs l p.length,qjk (gAs l p.length) (qf4 b)]::j7w (gPs l) (gIs l) (gAs l) (p.length+1) (grL r)=ja7 b::r.map ja7
  have h1:qjk (gAs l p.length) (qf4 b)=jak jmo b.edges:=qf9 _ _ (fun j=>by unfold gAs;rw [hb])
  have h2:=j1r l r (p++[b]) (by rw [←h];simp)
  rw [List.length_append] at h2
  rw [h1]
  unfold gPs gIs
  rw [hb]
  exact congrArg _ h2
theorem qga {f:Fc} (hne:f.blocks≠[]):[jak ja5 f.values,jak ja7 f.blocks]=qjl (grL f.blocks) (jak ja5 f.values) (gPs f.blocks) (gIs f.blocks) (gAs f.blocks):=by
 have h:=j1r f.blocks f.blocks [] rfl
 unfold qjl
 rw [show j7w (gPs f.blocks) (gIs f.blocks) (gAs f.blocks) 0 (grL f.blocks)=f.blocks.map ja7 from h]
 cases e:f.blocks with
 | nil=>exact absurd e hne
 | cons b r=>rfl
section
variable {f:Fc} {s:List Bool} {h:Hp} {Q:AV->Hp->Prop}
end
theorem jun:∀ (s:List Bool) (c:Nat),(j8x s c).length=1+3*s.length
 | [],c=>rfl
 | false::s,c=>by simp [j8x,jun s];omega
 | true::s,c=>by simp [j8x,jun s];omega
structure FlOk (m:Nat×Nat) (f:Fc) (s:List Bool):Prop where
 k:FcOk m f
 on:jey f=0
 hs:s.length<=5
 hg:grL f.blocks=gS s
 hv:f.values≠[]
 us:UsOk (jl0 s) f
theorem FlOk.len {m:Nat×Nat} {f:Fc} {s:List Bool} (o:FlOk m f s):f.blocks.length=1+3*s.length:=by rw [←jdv,o.hg,j1p]
theorem qgb {m:Nat×Nat} (m1:2<=m.1/\m.1<=10) (m2:2<=m.2/\m.2<=10) (l:List Pc):∃ s,FlOk m (jdl m l) s/\(jbp (jdl m l).blocks).Perm (List.range (jdl m l).values.length) /\
 (∀ (k i:Nat) (b:Blk) (x:Ms.Ins) (o:Ms.Opd),(jdl m l).blocks[k]?=some b->b.instrs[i]?=some x->o∈x.ops->o.kind=1->juk (jl0 s) (jdl m l).blocks o.value k i):=by
 obtain ⟨k,kp,_⟩:=jt6 m1 m2 l
 obtain ⟨s,h1,h2,h3,h4⟩:=j27 m1 m2 l
 have hv:(jdl m l).values≠[]:=by
  obtain ⟨b,g,c,n,_⟩:=((jia m1 m2).pieces (l.take 24)).bd.lay ⟨0,0,1,0,0,0,3⟩
  obtain ⟨_,_,_,_,_,_,_,_,cs,e1,e2,_⟩:=qak ((jia m1 m2).pieces (l.take 24)).v ⟨0,0,1,0,0,0,3⟩
  have:(jdl m l).values=(jch ((l.take 24).foldl jbe (jbk m)) ⟨0,0,1,0,0,0,3⟩).values:=rfl
  rw [this,e2]
  rcases e1 with rfl | rfl<;>simp
 refine ⟨s,⟨k,j1o kp,h1,h2,hv,⟨by have:=k.nb;omega,fun b hb=>by have:=k.blk b hb;omega,fun a i b x hb hx=>⟨(k.ins b (List.mem_of_getElem? hb) x (List.mem_of_getElem? hx)).nops,fun o ho hk=>juk.kt kp (h3 a i b x o hb hx ho hk)⟩,fun a b e hb he=>⟨?_,fun v hv=>juk.kt kp (h4 a b e v hb he hv)⟩⟩⟩,kp,h3⟩
 obtain ⟨_,_,t,h5,h6,_⟩:=k.edg b (List.mem_of_getElem? hb) e he
 have h7:=(k.blk t (List.mem_of_getElem? h5)).1
 have:=congrArg List.length h6
 simp only [List.length_map] at this
 omega
def S10 (f:FuncId):Bool:=Nat.beq f 40
noncomputable def F10:Fns:=PX S10 F9
theorem qku {A:Nat->Int}:Env Try.prog A tys F10:=jh3 qmg
theorem qkv {f:FuncId} (h1:S1 f=false) (h2:Nat.beq f jf7.f=false) (h3:S3 f=false) (h4:S4 f=false) (h5:S5 f=false) (h6:S6 f=false) (h7:S7 f=false) (h8:S8 f=false) (h9:S9 f=false) (h10:S10 f=false) {vs:List AV} {h:Hp}:jdy F10 f vs h=none:=(ja4 h10).trans (no9 h1 h2 h3 h4 h5 h6 h7 h8 h9)
section
variable {h:Hp} {m:Nat×Nat} {f:Fc} {s:List Bool} {Q:AV->Hp->Prop}
theorem qin {g:FuncId} (h9:S9 g=false) (h10:S10 g=false) {vs:List AV}:jdy F10 g vs h=jdy F8 g vs h:=(ja4 h10).trans (ja4 h9)
end
open Go Go.RowKit
def S11 (f:FuncId):Bool:=Nat.beq f 22
noncomputable def F11:Fns:=PX S11 F10
theorem qkw {A:Nat->Int}:Env Try.prog A tys F11:=jh3 qku
theorem qlq {f:FuncId} (h1:S1 f=false) (h2:Nat.beq f jf7.f=false) (h3:S3 f=false) (h4:S4 f=false) (h5:S5 f=false) (h6:S6 f=false) (h7:S7 f=false) (h8:S8 f=false) (h9:S9 f=false) (h10:S10 f=false) (h11:S11 f=false) {vs:List AV} {h:Hp}:jdy F11 f vs h=none:=(ja4 h11).trans (qkv h1 h2 h3 h4 h5 h6 h7 h8 h9 h10)
section
variable {h:Hp} {m:Nat×Nat} {f:Fc} {s:List Bool} {Q:AV->Hp->Prop}
end
section
variable {h:Hp} {m:Nat×Nat} {f:Fc} {s:List Bool} {Q:AV->Hp->Prop}
end
end Go.Proofs.Ytaljcpoopmedmaa.Ev
