/- Code of functions as the interpreter has it prepared, cut at loops. -/
import Derived.Test.YtaljcpoopmedmaaOx
namespace Go.Proofs.Ytaljcpoopmedmaa.Ev
open Go Go.RowKit
set_option linter.all false
set_option maxRecDepth 100000
def j8l:IC:=(.seq (.block 1 (.seq (.region [(qP (.ixs 5 (.g 10) (.g 13))),(qA (.load 5 true (.l 0))),(qB 9 (.new 48 [(.int .i64 0),(.int .i64 0),(.bool false),(.int .i64 0),(.int .i64 0)])),(qA (.store 5 (.l 0) (.l 1)))]) (.seq (.region [(qP (.fld 0 (.g 9))),(qA (.load 1 false (.l 0))),(qQ 8 (.bin .eq (.l 0) (qC 2)))]) (.cond (.g 8) (.region [(qP (.fld 1 (.g 9))),(qA (.load 1 false (.l 0))),(qQ 7 (.mv (.l 0)))]) .skip)))) (.region [(qP (.bin .add (.g 13) (qC 1))),(qQ 13 (.mv (.l 0)))]))
def juo:IC:=(.seq (.region [(qQ 11 (.bin .lt (.g 13) (.g 12)))]) (.seq (.cond (.g 11) .skip (.exit 0)) j8l))
def j8m:IC:=(.draw [((qP (.fld 1 (.g 17))),.none),((qA (.load 1 false (.l 0))),(.some [])),((qP (.mv (.g 6))),.none),((qP (.fld 1 (.g 17))),.none),((qA (.load 1 false (.l 0))),(.some [2])),((qP (.mv (.g 6))),.none),((qP (.ixs 3 (.l 1) (.l 0))),.none),((qP (.fld 1 (.l 0))),.none),((qA (.load 1 false (.l 0))),(.some [6])),((qA (.load 3 true (.g 5))),(.some [0,4,7])),((qA (.bslice 46 3 [(.int .i64 0),.nilSlice,.nilSlice] 1 [(0,(3,(.l 0)))])),(.some [1,5,8])),((qA (.app 46 3 56 (.l 2) (.l 0))),(.some [9])),((qP (.ixs 3 (.l 10) (.l 9))),.none),((qP (.fld 1 (.l 0))),.none),((qA (.store 1 (.l 0) (.l 2))),.none)])
def qc1:IC:=(.seq (.region [(qQ 4 (.mv (.c (.s (.bool false)))))]) (.seq (.region [(qP (.mv (.g 0))),(qP (.mv (.g 1))),(qA (.call 17 [(.l 1),(.l 0)])),(qB 20 (.new 30 [(.int .i64 0),(.int .i64 0)])),(qA (.store 2 (.l 0) (.l 1)))]) (.seq (.region [(qA (.load 2 true (.g 20))),(qP (.mv (.g 2))),(qA (.call 16 [(.l 1),(.l 0)])),(qB 19 (.new 26 [.nilSlice,.nilSlice])),(qA (.store 2 (.l 0) (.l 1)))]) (.seq (.region [(qA (.load 2 true (.g 19))),(qA (.call 20 [(.l 0)])),(qB 18 (.new 26 [.nilSlice,.nilSlice])),(qA (.store 2 (.l 0) (.l 1)))]) (.seq (.region [(qP (.fld 0 (.g 18))),(qA (.load 1 false (.l 0))),(qA (.bslice 3 1 [(.int .i64 0)] 1 [(0,(1,(qC 0)))])),(qA (.app 3 1 8 (.l 1) (.l 0))),(qP (.fld 0 (.g 18))),(qA (.store 1 (.l 0) (.l 1)))]) (.seq (.region [(qA (.load 2 true (.g 19))),(qA (.call 20 [(.l 0)])),(qB 17 (.new 26 [.nilSlice,.nilSlice])),(qA (.store 2 (.l 0) (.l 1)))]) (.seq (.region [(qA (.load 2 true (.g 17))),(qP (.mv (.g 3))),(qA (.call 21 [(.l 1),(.l 0)])),(qP (.mv (.l 0))),(qP (.ext 0 (.l 0))),(qP (.ext 1 (.l 1))),(qQ 16 (.mv (.l 1))),(qQ 15 (.mv (.l 1)))]) (.seq (.region [(qP (.fld 1 (.g 17))),(qA (.load 1 false (.l 0))),(qP (.mv (.g 16))),(qP (.ixs 3 (.l 1) (.l 0))),(qP (.fld 1 (.l 0))),(qA (.load 1 false (.l 0))),(qP (.mv (.g 15))),(qP (.ixs 3 (.l 1) (.l 0))),(qA (.load 3 true (.l 0))),(qB 14 (.new 46 [(.int .i64 0),.nilSlice,.nilSlice])),(qA (.store 3 (.l 0) (.l 1)))]) (.seq (.region [(qQ 7 (.mv (qC 0)))]) (.seq (.seq (.region [(qP (.fld 1 (.g 14))),(qB 10 (.load 1 false (.l 0))),(qQ 12 (.len (.l 0))),(qQ 13 (.mv (qC 0)))]) (.block 0 (.loop juo))) (.seq (.region [(qP (.fld 1 (.g 17))),(qA (.load 1 false (.l 0))),(qP (.len (.l 0))),(qP (.bin .sub (.l 0) (qC 1))),(qQ 6 (.mv (.l 0)))]) (.seq (.region [(qP (.mv (.g 7))),(qP (.build [(.int .i64 0),(.int .i64 0),(.bool false),(.int .i64 0),(.int .i64 0)] [(0,(1,(qC 2))),(1,(1,(.l 0))),(3,(1,(qC 1)))])),(qA (.bslice 48 5 [(.int .i64 0),(.int .i64 0),(.bool false),(.int .i64 0),(.int .i64 0)] 1 [(0,(5,(.l 0)))])),(qP (.build [(.int .i64 0),.nilSlice,.nilSlice] [(1,(1,(.l 0)))])),(qB 5 (.new 46 [(.int .i64 0),.nilSlice,.nilSlice])),(qA (.store 3 (.l 0) (.l 1)))]) (.seq j8m (.seq (.region [(qA (.load 2 true (.g 19))),(qA (.load 2 true (.g 20))),(qA (.call 19 [(.l 1),(.l 0)])),(qP (.bin .eq (.l 0) (qC 0))),(qP (.mv (.l 0))),(qS 0 true (.load 2 true (.g 18))),(qS 1 true (.load 2 true (.g 20))),(qS 2 true (.call 19 [(.l 1),(.l 0)])),(qR 3 true (.bin .eq (.l 0) (qC 6))),(qP (.pick (.l 4) (.l 0) (.c (.s (.bool false))))),(qP (.mv (.l 0))),(qS 0 true (.load 2 true (.g 17))),(qS 1 true (.load 2 true (.g 20))),(qS 2 true (.call 19 [(.l 1),(.l 0)])),(qR 3 true (.bin .eq (.l 0) (qC 7))),(qP (.pick (.l 4) (.l 0) (.c (.s (.bool false))))),(qQ 4 (.mv (.l 0)))]) .ret))))))))))))))
theorem qkx:T 5=some (.mk qc1 4 17 [(.tmp 4)]):=by kernel_rfl
open Go Go.RowKit Go.Proofs.Ytaljcpoopmedmaa.Ms
attribute [local go_sem] Int.cast_ofNat_Int Int.natCast_zero Int.natCast_one decide_eq_true_eq decide_eq_false_iff_not Bool.false_eq_true and_true true_and List.cons_append List.nil_append reduceCtorEq decide_true decide_false Bool.not_true Bool.not_false Nat.add_zero Nat.zero_add Option.some.injEq Bool.true_eq_false not_true_eq_false not_false_eq_true Hp.next_push Hp.next_put Nat.add_assoc Int.reduceToNat Nat.reduceAdd Nat.reduceMul Nat.reduceEqDiff Int.reduceEq Int.reduceLT Int.reduceLE Int.reduceNeg Int.reduceAdd Int.reduceSub Int.reduceMul Int.reduceNe
attribute [local go_sem ↓] reduceIte
set_option maxHeartbeats 2000000
theorem j1y:∀ (l:List Nat) (s:List Bool),(∀ v∈l,v<s.length)->(¬ l.Nodup∨∃ v∈l,s[v]?=some true)->jjo s l=none
 | [],s,_,h=>by
  rcases h with h | ⟨v,h,_⟩
  ·exact absurd .nil h
  ·simp at h
 | v::l,s,hl,h=>by
  unfold jjo
  by_cases e:s[v]?=some true
  ·rw [if_pos e]
  ·rw [if_neg e]
   refine j1y l _ (fun u hu=>by rw [List.length_set];exact hl u (by simp [hu])) ?_
   by_cases hv:v∈l
   ·exact .inr ⟨v,hv,List.getElem?_set_self (hl v (by simp))⟩
   ·rcases h with h | ⟨u,hu,h⟩
    ·exact .inl (fun h'=>h (List.nodup_cons.2 ⟨hv,h'⟩))
    ·rcases List.mem_cons.1 hu with rfl | hu
     ·exact absurd h e
     ·exact .inr ⟨u,hu,by rw [List.getElem?_set_ne (fun x=>hv (by rw [x];exact hu))];exact h⟩
theorem j29 {f:Fc} (h:(jbp f.blocks).Perm (List.range f.values.length)):jey ⟨f.values++[0],f.blocks⟩=6:=by
 have hm:∀ v,v∈jbp f.blocks↔v<f.values.length:=fun v=>by rw [h.mem_iff,List.mem_range]
 obtain ⟨t,h1,h2,h3⟩:=jzb (jbp f.blocks) (List.replicate (f.values.length+1) false) (h.nodup_iff.2 List.nodup_range) (fun v hv=>by rw [List.getElem?_replicate,if_pos (by have:=(hm v).1 hv;omega)])
 unfold jey
 simp only [List.length_append,List.length_singleton]
 rw [h1]
 have:false∈t:=by
  have:=h3 f.values.length
  rw [if_neg (fun hc=>by have:=(hm _).1 hc;omega),List.getElem?_replicate,if_pos (by omega)] at this
  exact List.mem_of_getElem? this
 simp only [this,if_true]
theorem j8n {f:Fc} (h:∀ v∈jbp f.blocks,v<f.values.length) (hd:¬ (jbp f.blocks).Nodup):jey f=7:=by
 unfold jey
 rw [j1y _ _ (fun v hv=>by rw [List.length_replicate];exact h v hv) (.inl hd)]
def SPt (f:FuncId):Bool:=Nat.beq f 21
noncomputable def FT:Fns:=PX SPt F7
theorem qmh {A:Nat->Int}:Env Try.prog A tys FT:=jh3 qlp
theorem noT {f:FuncId} (h0:SPt f=false) (h1:S1 f=false) (h2:Nat.beq f jf7.f=false) (h3:S3 f=false) (h4:S4 f=false) (h5:S5 f=false) (h6:S6 f=false) (h7:S7 f=false) {vs:List AV} {h:Hp}:jdy FT f vs h=none:=(ja4 h0).trans (no7 h1 h2 h3 h4 h5 h6 h7)
section
variable {F:Fns} {h:Hp} {m:Nat×Nat} {f:Fc} {x:AV} {na nb:List Nat} {Q:AV->Hp->Prop}
theorem qky {vs:List AV}:jdy F7 26 vs h=jdy F1 26 vs h:=(qij rfl rfl rfl rfl).trans ((ja4 rfl).trans (jh8.pk vs h))
theorem qay (z:Szs f) (hne:f.blocks≠[]) (o:OF h x f na nb) {n:Int} (hn1:-9223372036854775808<=n) (hn2:n<=9223372036854775807):WC FT 21 [x,vi n] h Q=Q (.tup [(false,[si (jp5 f n).1]),(false,[si (jp5 f n).2])]) h :=
 jau (j4x rfl (o.nogrd hne _) ⟨_,4,o.frz1,qax jem z hn1 hn2 (no7 rfl rfl rfl rfl rfl rfl rfl) rfl (fun m h h1 h2=>qky.trans (jvr hn1 hn2 h1 h2))⟩)
theorem qge (k:FcOk m f) (m1:2<=m.1/\m.1<=10) (m2:2<=m.2/\m.2<=10):WC FT 19 [.agg [jak ja5 f.values,jak ja7 f.blocks],.agg [si m.1,si m.2]] h Q=Q (vi (jey f)) h:=jau ((ja4 rfl).trans (qct k m1 m2))
theorem j8o (k:FcOk m f) (o:OF h x f na nb) (m1:2<=m.1/\m.1<=10) (m2:2<=m.2/\m.2<=10):WC FT 19 [x,.agg [si m.1,si m.2]] h Q=Q (vi (jey f)) h :=
 jau ((ja4 rfl).trans (o.call2 (fun e=>by have:=k.nb;rw [e] at this;simp at this) rfl (j7v jem k m1 m2)))
theorem jzi {a b:Int} (ha:In6 a) (hb:In6 b):WC FT 17 [vi a,vi b] h Q=Q (.agg (qe7 (jpv a b))) h:=jau ((ja4 rfl).trans ((qij rfl rfl rfl rfl).trans (jrj ha hb)))
theorem qaz {l:List Pc} (m1:2<=m.1/\m.1<=10) (m2:2<=m.2/\m.2<=10) (pin:∀ q∈l,Pin q) {xl:SV} (lx:LstE jb5 7 xl l):WC FT 16 [.agg [si m.1,si m.2],.s xl] h Q=Q (.agg (jq8 (jdl m l))) h:=jau ((ja4 rfl).trans ((qij rfl rfl rfl rfl).trans (j6k m1 m2 pin lx)))
end
theorem qgf {l:List Ms.Opd} (hl:l.length<=10000) {oo:SV} {ex:Bool} {lo:Nat} {ns:List Nat} (hns:∀ n∈ns,n<lo) {x0 x1 x2 x3 x4 x5 x6 x14 x15 x16 x17 x18 x19 x20:AV} {Q:Ex->St->Prop} :
 ∀ (d i:Nat) (_:i+d=l.length) {hi:Hp} (_:Ok hi) (_:lo<=hi.next) (_:Sl hi 48 5 ex EO oo l ns) {x8 x9 x11:AV}
  (hQ:∀ hj x8 x9 x11,Ok hj->hi.next<=hj.next->(∀ n,n<lo->hj.get n=hi.get n)->Q (.exit 0) (.mk [x0,x1,x2,x3,x4,x5,x6,vi (jp6 l),x8,x9,.s oo,x11,vi l.length,vi l.length,x14,x15,x16,x17,x18,x19,x20] hj)),
  W FT juo.loop (.mk [x0,x1,x2,x3,x4,x5,x6,vi (jp6 (l.take i)),x8,x9,.s oo,x11,vi l.length,vi i,x14,x15,x16,x17,x18,x19,x20] hi) Q
 | 0,i,hd,hi,ok,hn,s,x8,x9,x11,hQ=>by
  obtain rfl:i=l.length:=by omega
  rw [jao]
  unfold juo
  simp (disch:=first|omega|simp only[List.length]|apply_rules[jaa,jac,jad]) only [go_sem,Int.lt_irrefl,List.take_length]
  exact hQ hi _ _ _ ok (Nat.le_refl _) (fun _ _=>rfl)
 | d+1,i,hd,hi,ok,hn,s,x8,x9,x11,hQ=>by
  have hil:i<l.length:=by omega
  have hlt:(i:Int)<(l.length:Int):=by omega
  have hss:(i:Int)+1=((i+1:Nat):Int):=by omega
  obtain ⟨o,ho⟩:∃ o,l[i]?=some o:=⟨_,List.getElem?_eq_getElem hil⟩
  obtain ⟨b,row,ms,e1,e2,e3,⟨rfl,rfl⟩,_,e6⟩:=s.at ho
  have ht:l.take (i+1)=l.take i++[o]:=by rw [List.take_add_one,ho];rfl
  obtain ⟨hA,eA,okA,nA,xA,gA⟩:=jda ok [.int .i64 0,.int .i64 0,.bool false,.int .i64 0,.int .i64 0] (jbj o) 48
  have sA:=s.keep (fun n hm=>gA n (by have:=hns n hm;omega))
  have hQ':∀ hj x8 x9 x11,Ok hj->hA.next<=hj.next->(∀ n,n<lo->hj.get n=hA.get n)->Q (.exit 0) (.mk [x0,x1,x2,x3,x4,x5,x6,vi (jp6 l),x8,x9,.s oo,x11,vi l.length,vi l.length,x14,x15,x16,x17,x18,x19,x20] hj) :=
   fun hj x8 x9 x11 k n g=>hQ hj x8 x9 x11 k (by omega) (fun n hm=>(g n hm).trans (gA n (by omega)))
  unfold jbj at xA eA e2
  rw [jao]
  unfold juo j8l
  by_cases e:o.kind=2
  ·have c1:((o.kind:Int)=2)=True:=eq_true (by omega)
   have hv:jp6 (l.take (i+1))=o.value:=by rw [ht,jl2,if_pos e]
   simp (disch:=first|omega|simp only[List.length]|apply_rules[jaa,jac,jad]) only [go_sem,jah,eq_true hlt,e1,e2,eA,xA,c1,hss]
   rw [←hv]
   exact qgf hl hns d (i+1) (by omega) okA (by omega) sA hQ'
  ·have c1:((o.kind:Int)=2)=False:=eq_false (by omega)
   have hv:jp6 (l.take (i+1))=jp6 (l.take i):=by rw [ht,jl2,if_neg e]
   simp (disch:=first|omega|simp only[List.length]|apply_rules[jaa,jac,jad]) only [go_sem,jah,eq_true hlt,e1,e2,eA,xA,c1,hss]
   rw [←hv]
   exact qgf hl hns d (i+1) (by omega) okA (by omega) sA hQ'
def qiq (f:Fc) (v:Nat):Fc:=⟨f.values,f.blocks.modify (f.blocks.length - 1) (fun b=>{ b with instrs:=b.instrs++[jqg 2 v] })⟩
theorem qir {m:Nat×Nat} {f:Fc} (k:FcOk m f) (m1:2<=m.1/\m.1<=10) (m2:2<=m.2/\m.2<=10) (hi:∀ b∈f.blocks,b.instrs.length<=23) (hs:sm f.blocks<=100) (kp:(jbp f.blocks).Perm (List.range f.values.length)) {v:Nat} (hv:v∈jbp f.blocks):FcOk m (qiq f v)/\jey (qiq f v)=7:=by
 have hm:∀ v,v∈jbp f.blocks↔v<f.values.length:=fun v=>by rw [kp.mem_iff,List.mem_range]
 have nb:=k.nb
 have hsm:=qbw (l:=f.blocks) (k:=f.blocks.length - 1) (by omega) (jqg 2 v)
 have hmd:=jwi (l:=f.blocks) (k:=f.blocks.length - 1) (by omega) (jqg 2 v)
 refine ⟨k.instrs (g:=fun l=>l++[jqg 2 v]) (fun b hb=>⟨by have:=hi b hb;simp;omega,fun _=>by simp,fun x hx=>?_⟩) (by unfold jat at hsm;rw [hsm];omega),?_⟩
 ·rcases List.mem_append.1 hx with hx | hx
  ·exact k.ins b hb x hx
  ·rw [List.mem_singleton.1 hx];exact qgd m1.1 m2.1 (.inr rfl) ((hm v).1 hv)
 ·refine j8n (f:=qiq f v) (fun u hu=>?_) (fun hd=>?_)
  ·have hu':u∈jbp (jat f.blocks (f.blocks.length - 1) (jqg 2 v)):=hu
   rw [hmd.mem_iff] at hu'
   rcases List.mem_append.1 hu' with h | h
   ·exact (hm u).1 h
   ·rw [show jcg (jqg 2 v)=[v] from rfl] at h
    rw [List.mem_singleton.1 h];exact (hm v).1 hv
  ·have hd':(jbp (jat f.blocks (f.blocks.length - 1) (jqg 2 v))).Nodup:=hd
   rw [hmd.nodup_iff] at hd'
   exact (List.nodup_append.1 hd').2.2 v hv v (by rw [show jcg (jqg 2 v)=[v] from rfl];simp) rfl
theorem j3a {l:List Ms.Blk} {B:Ms.Blk} {X:Ms.Ins} (hB:B∈l) (hX:X∈B.instrs) (hl:LD X):jp6 X.ops∈jbp l:=by
 obtain ⟨r,o,e,ho⟩:=hl
 rw [e,jl2,if_pos ho]
 unfold jbp
 rw [List.mem_flatten]
 refine ⟨jmr B,List.mem_map_of_mem hB,?_⟩
 unfold jmr
 rw [List.mem_append,List.mem_flatten]
 exact .inr ⟨jcg X,List.mem_map_of_mem hX,by unfold jcg;rw [e];simp [ho]⟩
set_option maxHeartbeats 8000000
theorem j8p {h:Hp} (ok:Ok h) {a b n:Int} {l:List Pc} (ha:In6 a) (hb:In6 b) (hn:In6 n) (pin:∀ q∈l,Pin q) {xl:SV} (lx:LstE jb5 7 xl l):WC FT 5 [vi a,vi b,.s xl,vi n] h (fun v _=>v=.s (.bool true)):=by
 refine ja9 (noT rfl rfl rfl rfl rfl rfl rfl rfl) qkx rfl ?_
 unfold qc1
 obtain ⟨hn1,hn2⟩:=hn
 obtain ⟨m1,m2⟩:=j6i a b
 obtain ⟨m,em⟩:∃ m,jpv a b=m:=⟨_,rfl⟩
 rw [em] at m1 m2
 obtain ⟨k,kp,kv⟩:=jt6 m1 m2 l
 obtain ⟨zi,z1,z2⟩:=j8k m1 m2 l
 have hld:=j8j m l
 obtain ⟨f,ef⟩:∃ f,jdl m l=f:=⟨_,rfl⟩
 rw [ef] at k kp kv zi z1 z2 hld
 have hpos:=ok.pos
 have knb:=k.nb
 have hne:f.blocks≠[]:=fun e=>by rw [e] at knb;simp at knb
 obtain ⟨hA,eA,okA,nA,xA,gA⟩:=jda ok [.int .i64 0,.int .i64 0] [si m.1,si m.2] 30
 obtain ⟨hB,eB,okB,nB,xB,gB⟩:=jda okA [.nilSlice,.nilSlice] [jak ja5 f.values,jak ja7 f.blocks] 26
 have yA:=(gB _ (by omega)).trans xA
 simp (disch:=first|omega|simp only[List.length]|apply_rules[jaa,jac,jad]) only [go_sem,jzi ha hb,em,qe7,eA,xA,qaz m1 m2 pin lx,ef,jq8,eB,xB]
 refine WC.imp (jzf okB (j1x k) (noT rfl rfl rfl rfl rfl rfl rfl rfl) rfl) ?_
 rintro v hC ⟨na,nb,oC,okC,nC,gC,lC⟩
 obtain ⟨ga,gb,rfl⟩:∃ ga gb,v=AV.agg [ga,gb]:=by obtain ⟨⟨a,b,e,_⟩,_⟩:=oC;exact ⟨a,b,e⟩
 obtain ⟨hD,eD,okD,nD,xD,gD⟩:=jda okC [.nilSlice,.nilSlice] [ga,gb] 26
 have oD:=oC.keep (h':=hD) (fun n hn=>gD n (oC.lt n hn).2) (by omega)
 obtain ⟨ga',hE,na',eE,okE,nE,gE,oE,lE⟩:=oD.value okD (by omega)
 have nCa:hC.next∉na:=fun hc=>by have:=oC.lt _ (List.mem_append_left _ hc);omega
 have yD:=(gE hC.next (by omega) nCa).trans xD
 obtain ⟨hF,eF,okF,nF,xF,gF⟩:=qcw okE (b:=hC.next) (by omega) (some (.arr [ga',gb] 26))
 have oF:=oE.keep (h':=hF) (fun n hn=>gF n (fun e=>by
  subst e
  rcases List.mem_append.1 hn with hn | hn
  ·rcases lE _ hn with hn | hn
   ·exact nCa hn
   ·omega
  ·have:=oC.lt _ (List.mem_append_right _ hn);omega)) (by omega)
 have low:∀ n,n<hB.next->hF.get n=hB.get n:=fun n hn=>by
  rw [gF n (by omega),gE n (by omega) (fun hc=>by have:=lC n (List.mem_append_left _ hc);omega),gD n (by omega),gC n hn]
 have xBF:=(low _ (by omega)).trans xB
 simp (disch:=first|omega|simp only[List.length]|apply_rules[jaa,jac,jad]) only [go_sem,eD,xD,eE,yD,eF,xBF]
 refine WC.imp (jzf okF (j1x k) (noT rfl rfl rfl rfl rfl rfl rfl rfl) rfl) ?_
 rintro v hG ⟨na2,nb2,oG,okG,nG,gG,lG⟩
 obtain ⟨pa,pb,rfl⟩:∃ ga gb,v=AV.agg [ga,gb]:=by obtain ⟨⟨a,b,e,_⟩,_⟩:=oG;exact ⟨a,b,e⟩
 obtain ⟨hH,eH,okH,nH,xH,gH⟩:=jda okG [.nilSlice,.nilSlice] [pa,pb] 26
 have oH:=oG.keep (h':=hH) (fun n hn=>gH n (oG.lt n hn).2) (by omega)
 have hsp:∃ kk ii B X,(jp5 f n).1=kk/\(jp5 f n).2=ii/\f.blocks[kk]?=some B/\B.instrs[ii]?=some X:=by
  have hm:1<=jnb f.blocks:=z1
  have hp:=jfk (n:=n) (m:=max (jnb f.blocks) 1) (by omega)
  obtain ⟨d,h1,x,h2,h3⟩:=j1w f.blocks 0 (pk n (max (jnb f.blocks) 1)) (by omega)
  rw [Nat.zero_add] at h1
  exact ⟨_,_,x,_,rfl,rfl,by unfold jp5;rw [h1];exact h2,by unfold jp5;exact List.getElem?_eq_getElem h3⟩
 obtain ⟨kk,ii,B,X,ek,ei,hB',hX⟩:=hsp
 have memB:=List.mem_of_getElem? hB'
 have memX:=List.mem_of_getElem? hX
 obtain ⟨bb,p,si',e,np,ni,ne,ex,M1,M2,cells,r1,r2,r3,r4,r5,r6,rfl,_⟩:=oH.at hB'
 have r7:=qc0 (j:=1) r3 rfl rfl
 obtain ⟨bi,rowX,msX,r8,r9,r10,⟨oo,ss,n1,n2,ex2,rfl,r11,r12,rfl⟩,r13,r14⟩:=r5.at hX
 obtain ⟨hI,eI,okI,nI,xI,gI⟩:=jda okH [.int .i64 0,.nilSlice,.nilSlice] [si X.op,oo,ss] 46
 have ltn1:∀ n∈n1,n<hH.next:=fun n hn=>(oH.lt n (by have:=r13 n (by simp [hn]);simp [this])).2
 have r11':=r11.keep (h':=hI) (fun n hn=>gI n (ltn1 n hn))
 have lo1:=r11'.len
 simp (disch:=first|omega|simp only[List.length]|apply_rules[jaa,jac,jad]) only [go_sem,eH,xH,qay (j1x k) hne oH hn1 hn2,ek,ei,r1,r7,r8,r9,eI,xI,lo1]
 have hX6:=(k.ins B memB X memX).nops
 refine qgf (l:=X.ops) (by omega) (lo:=hI.next) (fun n hn=>by have:=ltn1 n hn;omega) X.ops.length 0 (by omega) okI (Nat.le_refl _) r11' (fun hJ x8 x9 x11 okJ nJ gJ=>?_)
 obtain ⟨v,ev⟩:∃ v,jp6 X.ops=v:=⟨_,rfl⟩
 have vm:v∈jbp f.blocks:=ev▸j3a memB memX (hld B memB X memX)
 obtain ⟨twk,tw7⟩:=qir k m1 m2 zi z2 kp vm
 have xJ:=(gJ hG.next (by omega)).trans ((gI hG.next (by omega)).trans xH)
 have oJ:=oH.keep (h':=hJ) (fun n hn=>by have:=(oH.lt n hn).2;rw [gJ n (by omega),gI n this]) (by omega)
 have lb:jvo (.s pb)=some (vi f.blocks.length):=by obtain ⟨⟨a,b,e,_,s⟩,_⟩:=oJ;cases e;exact s.len
 obtain ⟨q,eq⟩:∃ q,f.blocks.length - 1=q:=⟨_,rfl⟩
 have hq1:(f.blocks.length:Int) - 1=(q:Int):=by omega
 obtain ⟨C,hC'⟩:∃ C,f.blocks[q]?=some C:=⟨_,List.getElem?_eq_getElem (by omega)⟩
 have memC:=List.mem_of_getElem? hC'
 obtain ⟨hK,eK,okK,nK,xK,gK⟩:=je5 okJ (jbj ⟨2,v,false,1,0⟩) 48
 obtain ⟨hL,eL,okL,nL,xL,gL⟩:=jda okK [.int .i64 0,.nilSlice,.nilSlice] [si 0,.slice hJ.next 0 1 1 true 5,.nilSlice] 46
 have xKL:=(gL _ (by omega)).trans xK
 have xHL:=(gL _ (by omega)).trans ((gK _ (by omega)).trans xJ)
 have oL:=oJ.keep (h':=hL) (fun n hn=>by have:=(oJ.lt n hn).2;rw [gL n (by omega),gK n this]) (by omega)
 have hOX:OX hL [si 0,.slice hJ.next 0 1 1 true 5,.nilSlice] (jqg 2 v) [hJ.next]:=⟨_,_,[hJ.next],[],true,rfl,.inr ⟨by simp [jqg],hJ.next,[jbj ⟨2,v,false,1,0⟩],[],rfl,by rw [xKL];simp;rfl,.cons (ns:=[]) rfl ⟨rfl,rfl⟩ .nil,rfl⟩,.nil,rfl⟩
 obtain ⟨bc,ic,ic',hM,cs1,cs2,nb',t1,t2,t3,okM,nM,t4,t5,t6,t7,t8,t9⟩:=oL.addI okL hC' (by have:=zi C memC;omega) rfl hOX (by simp) (N:=hJ.next) (fun n hn=>by have:=(oH.lt n hn).2;omega) (by omega) (fun n hn=>by rw [List.mem_singleton.1 hn];omega)
 obtain ⟨hP,eP,okP,nP,xP,gP⟩:=qcw okM (b:=bc) (oL.lt bc (by simp only [List.mem_append];exact .inr t7)).1 (some (.arr cs2 36))
 rw [eP] at t9
 have eK':hJ.push (AB.arr [.int .i64 2,si v,.bool false,.int .i64 1,.int .i64 0] 48)=hK:=eK
 have eL':(hK.push (AB.arr [.int .i64 0,.nilSlice,.nilSlice] 46)).put hK.next (some (.arr [.int .i64 0,.slice hJ.next 0 1 1 true 5,.nilSlice] 46))=hL:=eL
 have xL':hL.get hK.next=some (.arr [.int .i64 0,.slice hJ.next 0 1 1 true 5,.nilSlice] 46):=xL
 have t3':jjk (hL.push (.arr [.int .i64 0,.slice hJ.next 0 1 1 true 5,.nilSlice] 46)) 46 3 56 (.s ic) (.s (.slice hL.next 0 1 1 true 3))=some (.s ic',hM):=t3
 have lowP:∀ n,n<hF.next->hP.get n=hF.get n:=fun n hn=>by
  have h1:n≠bc:=fun e=>by have:=lG bc (List.mem_append_right _ t7);omega
  rw [gP n h1,t6 n (by omega) (fun hc=>by have:=lG n (List.mem_append_right _ hc);omega),gL n (by omega),gK n (by omega),gJ n (by omega),gI n (by omega),gH n (by omega),gG n hn]
 have pB:=(lowP _ (by omega)).trans xBF
 have pA:=(lowP _ (by omega)).trans ((low _ (by omega)).trans yA)
 have pF:=(lowP _ (by omega)).trans xF
 have lbc:=(oH.lt bc (List.mem_append_right _ t7)).2
 have lbg:=(oG.lt bc (List.mem_append_right _ t7)).2
 have pG:hP.get hG.next=some (.arr [pa,pb] 26):=by
  rw [gP _ (by omega),t6 _ (by omega) (fun hc=>by have:=(oG.lt _ (List.mem_append_right _ hc)).2;omega)];exact xHL
 have oP:=oF.keep (h':=hP) (fun n hn=>lowP n (oF.lt n hn).2) (by omega)
 have etw:(⟨f.values,f.blocks.set q { C with instrs:=C.instrs++[jqg 2 v] }⟩:Fc)=qiq f v:=by
  unfold qiq
  rw [eq,jc5 hC']
 rw [etw] at t9
 rw [nK] at eL' xL'
 simp (disch:=first|omega|simp only[List.length]|apply_rules[jaa,jac,jad]) only [go_sem,jah,ev,xJ,lb,hq1,eK',nK,eL']
 unfold j8m
 obtain ⟨hQ,eQ,okQ,nQ,xQ,gQ⟩:=je5 okL [.int .i64 0,.slice hJ.next 0 1 1 true 5,.nilSlice] 46
 rw [eQ] at t3'
 simp (disch:=first|omega|simp only[List.length]|apply_rules[jaa,jac,jad]) only [go_sem,xHL,t1,t2,xL',eQ]
 have hrq:rdB (hQ.get hL.next) 0 (1*3)=some [.int .i64 0,.slice hJ.next 0 1 1 true 5,.nilSlice]:=by rw [xQ];rfl
 refine Eq.mpr (Classical.choose_spec (jwx (row:=[.int .i64 0,.slice hJ.next 0 1 1 true 5,.nilSlice]) (x:=ic) okQ okM rfl rfl rfl hrq (by omega) ?_ t3')) ?_
 ·rcases t8 with h1 | ⟨c,n',h1,h2,h3⟩
  ·exact .inl h1
  ·refine .inr ⟨c,n',h1,?_,?_⟩
   ·have:c≠hG.next:=fun e=>by have:=(oG.lt c (List.mem_append_right _ h2)).2;omega
    show oif (oif (Nat.beq hG.next c) false true) true false=true
    have hb:Nat.beq hG.next c=false:=by
     cases e:Nat.beq hG.next c with
     | false=>rfl
     | true=>exact absurd (Nat.eq_of_beq_eq_true e).symm this
    rw [hb];rfl
   ·rw [gQ c (by have:=(oL.lt c (List.mem_append_right _ h2)).2;omega)];exact h3
 simp (disch:=first|omega|simp only[List.length]|apply_rules[jaa,jac,jad]) only [go_sem,t1,t4,t5,eP,pA,pB,pF,pG,qge k m1 m2,j1o kp,j8o (k.value (by omega)) oP m1 m2,j29 kp,j8o twk t9 m1 m2,tw7]
end Go.Proofs.Ytaljcpoopmedmaa.Ev
