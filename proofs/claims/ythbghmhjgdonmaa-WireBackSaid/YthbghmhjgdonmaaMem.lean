/- Maps whose keys are structs of numbers and bools: the interpreter's against the model's. No program in sight. -/
import Derived.Test.YthbghmhjgdonmaaPopS
import Derived.MapKept
import Derived.Laws.AppendOwn
import Derived.Laws.MakeOwn
import Derived.LaidEqlPtr
import Derived.Laws.BytesArg
import Derived.Laws.Strings
namespace Go.Proofs.Ythbghmhjgdonmaa.Ev
open Go
set_option linter.all false
variable {v:AV} {rows:List (List SV)} {xs:List SV} {b n off size:Nat}
section
variable {st fr:List AV} {h h':Hp}
end
section
variable {P:Program} {T:Tr TI} {w w':World} {A:Nat->Int} {φ:Phi} {h h':Hp}
end
def qnk:Next->Value->Prop
 | .value v,u=>v=u
 | .skip,u=>u=undef
 | _,_=>False
def jxf (h:Hp):Cls->Nat->Prop
 | .fresh,_=>False
 | .load _,_=>False
 | .app b,n=>n=b
 | .quiet,_=>False
 | .other,n=>h.lo<=n
def jdb (A:Nat->Int) (W:Nat->Prop) (φ:Phi) (h:Hp) (w:World) (v:AV) (h':Hp) (r:Result Next):Prop :=
 ∃ n rv w' φ',r=.ok n w'/\qnk n rv/\Step W φ φ' h h' w w'/\Rel A φ' h' w'/\cV A φ' v rv
section
variable {P:Program} {T:Tr TI} {w w':World} {A:Nat->Int} {φ:Phi} {h h':Hp} {π:List Nat} {loc:List (Option Nat)} {st fr:List AV} {ρ:Operand->Value} {W V:Nat->Prop}
theorem jdb.mono (hw:∀ n,W n->V n) {r:Result Next} (k:jdb A W φ h w v h' r):jdb A V φ h w v h' r :=
 let ⟨n,rv,w',φ',a,b,c,d,e⟩:=k;⟨n,rv,w',φ',a,b,c.mono hw,d,e⟩
theorem jd5 (k:Rel A φ h w) {cs:List SV} {ty:TypeId} {g:Nat->AV} (hv:nw h cs ty (fun n h=>ok (g n) h)=some (v,h')) {c:Array Value} (gr:Grown w w' c ty)
 (hl:cs.length<=c.size) (hc:∀ (i:Nat) sv,cs[i]?=some sv->∃ v,c[i]?=some v/\cS A φ sv v) :
 ∃ φ',Step (fun _=>False) φ φ' h h' w w'/\Rel A φ' h' w'/\φ' h.next=some ⟨w.heap.size,0,c.size⟩/\v=g h.next/\φ.le φ':=by
 obtain⟨h1,h2,h3⟩:=jr0 hv
 cases h3
 obtain⟨s,r⟩:=k.push h1 h2 gr hl hc
 exact⟨_,s,r,Phi.add_same _ _ _,rfl,s.le k⟩
theorem jm2 {cs:List SV} {c:Array Value} (ha:All2 (cS A φ) cs c.toList):cs.length<=c.size/\∀ (i:Nat) sv,cs[i]?=some sv->∃ v,c[i]?=some v/\cS A φ sv v :=
 ⟨by have:=ha.len;simp at this;omega,fun i sv hi=>by obtain⟨v,h1,h2⟩:=ha.get i sv hi;exact⟨v,by simpa using h1,h2⟩⟩
theorem jfn (k:Rel A φ h w) (hr:rd h b off n=some xs) :
 ∃ L vs,φ b=some L/\(h.get b).isSome=true/\All2 (cS A φ) xs vs/\vs.length=n/\∀ j v,vs[j]?=some v->w.cell? ⟨L.b,L.o+off+j,none⟩=some v:=by
 obtain⟨cs,ty,hg,rfl,hl⟩:=jr1 hr
 obtain⟨L,c,h1,h3,h4,h5,h6⟩:=k.blk b _ hg
 have hlen:off+n<=cs.length∨n=0:=by simp at hl;omega
 refine⟨L,(c.toList.drop (L.o+off)).take n,h1,by rw[hg];rfl,?_,?_,?_⟩
 .refine All2.of_get ?_ ?_
  .simp at hl ⊢;omega
  .intro i a b ha hb
   have hin:i<n:=by
    rcases f0k i n with h | h
    .exact h
    .rw [f0r (by simp;omega)] at ha;cases ha
   rw[f13 hin,f1j] at ha hb
   obtain⟨v,hv,hc⟩:=h6 _ _ ha
   rw[f1e,f1x,hv] at hb
   cases hb
   exact hc
 .simp at hl ⊢;omega
 .intro j v hv
  have hin:j<n:=by
   rcases f0k j n with h | h
   .exact h
   .rw [f0r (by simp;omega)] at hv;cases hv
  rw[f13 hin,f1j] at hv
  simp only[World.cell?,h3]
  simpa using hv
theorem jvg (k:Rel A φ h w) {m mc sz:Nat} {ex:Bool} {x:Value} (hx:cS A φ (.slice b off m mc ex sz) x) (hr:rd h b off n=some xs) (hn:m=0->n=0) :
 ∃ ad cap news,x=.slice (some ad) m cap/\All2 (cS A φ) xs news/\news.length=n/\∀ j u,news[j]?=some u->w.cell? (ad.add j)=some u:=by
 obtain⟨L,ad,cap,q1,rfl,q2,q3,q4,q5⟩:=hx
 obtain⟨L',vs,e1,_,e2,e3,e4⟩:=jfn k hr
 rw[q1] at e1
 cases e1
 refine⟨ad,cap,vs,rfl,e2,e3,fun j u hu=>?_⟩
 rcases q5 with⟨rfl,_⟩ | q5
 .rw [jb9];exact e4 j u hu
 .have:vs=[]:=f1m (by rw[e3];exact hn (by omega))
  rw[this] at hu
  cases hu
theorem jqz {R:SV->Value->Prop} {c:Array Value} {o:Nat} {cells:List SV} (h:∀ (j:Nat) (x:SV),cells[j]?=some x->∃ u,c[o+j]?=some u/\R x u) :
 ∃ vs,All2 R cells vs/\vs.length=cells.length/\∀ (j:Nat) (u:Value),vs[j]?=some u->c[o+j]?=some u:=by
 have hl:((c.toList.drop o).take cells.length).length=cells.length:=by
  rcases f2k cells.length with h0 | h0
  .rw [h0];simp
  .obtain ⟨u,h1,_⟩:=h (cells.length - 1) _ (f0b (by omega))
   have:=(f09.1 h1).1
   simp
   omega
 have hg:∀ (j:Nat) (u:Value),((c.toList.drop o).take cells.length)[j]?=some u->c[o+j]?=some u:=fun j u hu=>by
  rw[f2a] at hu
  split at hu
  .rw [f1j] at hu
   simpa using hu
  .cases hu
 refine⟨_,All2.of_get hl.symm (fun i a b ha hb=>?_),hl,hg⟩
 obtain⟨u,h1,h2⟩:=h i a ha
 have:=hg i b hb
 rw[h1] at this
 cases this
 exact h2
theorem jr6 {vs:List Value} (ha:All2 (cS A φ) xs vs):∀ v∈vs,v.oneCell'=true:=by
 intro v hv
 induction ha with
 | nil=>cases hv
 | cons a _ ih=>rcases f0f.1 hv with rfl | h
                .exact a.one.1
                .exact ih h
theorem jjl:∀ {rows:List (List SV)} {l:List SV},jmp size rows=some l->l.length=rows.length*size/\∀ (i j:Nat) (row:List SV) (x:SV),rows[i]?=some row->row[j]?=some x->row.length=size/\l[i*size+j]?=some x
 | [],l,h=>by cases h;exact⟨by simp,fun i j row x hr=>by simp at hr⟩
 | a::r,l,h=>by
  obtain⟨h1,h2⟩:=jac.1 (show oif (Nat.beq (jdg a) size) (ob (jmp size r) (fun r=>some (jgi a r))) none=some l from h)
  obtain⟨l',h3,h4⟩:=jaa.1 h2
  rw[jc9] at h4
  cases h4
  rw[jgw,jbm] at h1
  obtain⟨h5,h6⟩:=jjl h3
  refine⟨by rw[f0j,h5,f02,f3c,h1];omega,fun i j row x hr hx=>?_⟩
  cases i with
  | zero =>
   simp only[f1g,Option.some.injEq] at hr
   subst hr
   have:=(f00.1 hx).1
   exact⟨h1,by rw[f12,f0w,f0u this];exact hx⟩
  | succ i =>
   have hr':r[i]?=some row:=by simpa using hr
   obtain⟨h7,h8⟩:=h6 i j row x hr' hx
   refine⟨h7,?_⟩
   rw[f0v (by rw[h1,f3c];omega),←h8]
   congr 1
   rw[h1,f3c]
   omega
theorem qaf {l:List SV} (h:jmp size rows=some l) (hs:0<size) {j:Nat} {x:SV} (hx:l[j]?=some x):∃ row,rows[j / size]?=some row/\row[j % size]?=some x:=by
 obtain⟨h1,h2⟩:=jjl h
 have hlt:j<rows.length*size:=by have:=(f00.1 hx).1;omega
 have hq:j / size<rows.length:=Nat.div_lt_of_lt_mul (by rw[Nat.mul_comm];exact hlt)
 have hall:∀ {rows:List (List SV)} {l:List SV},jmp size rows=some l->∀ row∈rows,row.length=size:=by
  intro rows
  induction rows with
  | nil=>intro l _ row hr;simp at hr
  | cons a r ih =>
   intro l h row hr
   obtain⟨h1,h2⟩:=jac.1 (show oif (Nat.beq (jdg a) size) (ob (jmp size r) (fun r=>some (jgi a r))) none=some l from h)
   obtain⟨l',h3,h4⟩:=jaa.1 h2
   rw[jgw,jbm] at h1
   rcases f0f.1 hr with rfl | h5
   .exact h1
   .exact ih h3 row h5
 have hrow:=hall h rows[j / size] (f2x hq)
 have hm:j % size<rows[j / size].length:=by rw[hrow];exact f3k _ hs
 refine⟨rows[j / size],f0b hq,?_⟩
 obtain⟨_,h3⟩:=h2 (j / size) (j % size) _ _ (f0b hq) (f0b hm)
 rw[show j / size*size+j % size=j by rw[Nat.mul_comm];exact Nat.div_add_mod j size,hx] at h3
 rw[f0b hm,h3]
theorem jhr (k:Rel A φ h w) {x:Value} (hx:cD A φ.k (.lst rows) x) (hr:jmp size rows=some xs) :
 ∃ ad cap news,x=.slice (some ad) rows.length cap/\All2 (cS A φ) xs news/\news.length=rows.length*size/\∀ (j:Nat) (u:Value),news[j]?=some u->w.cell? (ad.add j)=some u:=by
 obtain⟨ad,cap,rfl,hc,hcase⟩:=jfm hx
 obtain⟨h1,h2⟩:=jjl hr
 by_cases h0:xs=[]
 .subst h0
  exact⟨ad,cap,[],rfl,.nil,by simpa using h1,fun j u hj=>by simp at hj⟩
 .have hpos:0<xs.length:=by cases xs with | nil=>exact absurd rfl h0 | cons a t=>simp
  have hs:0<size:=by
   rcases f2k size with h | h
   .rw [h1,h,Nat.mul_zero] at hpos;omega
   .exact h
  rcases hcase with rfl | ⟨b,o,sz,cs,e1,rfl,e3,e4⟩
  .rw [h1] at hpos;simp at hpos
  .obtain ⟨ty,hb⟩:=k.con b cs e1
   have key:∀ (j:Nat) (x:SV),xs[j]?=some x->∃ u,cs[o+j]?=some u/\cD A φ.k x u:=fun j x hx=>by
    obtain⟨row,g1,g2⟩:=qaf hr hs hx
    obtain⟨u,g3,g4⟩:=e4 _ _ row x g1 g2
    have g5:sz=size:=by rw[←e3 _ _ g1];exact(h2 _ _ _ _ g1 g2).1
    refine⟨u,?_,g4⟩
    rw[←g3]
    congr 1
    rw[g5,f1x,show j / size*size+j % size=j by rw[Nat.mul_comm];exact Nat.div_add_mod j size]
   obtain⟨vs,a1,a2,a3⟩:=jqz key
   refine⟨_,cap,vs,rfl,a1.mono (fun _ _ h=>h.toS),by rw[a2,h1],fun j u hj=>?_⟩
   rw[jb9]
   simp only[World.cell?,hb]
   exact a3 j u hj
theorem jq0 (e:TypeId) (v:Value):(newVar e v).run P w=.ok ⟨w.heap.size,0,none⟩ { w with heap:=w.heap.push (.cells v.cells e) }:=by
 simp[newVar,newRow]
theorem jk2 (c:Array Value) (e:TypeId):Grown w { w with heap:=w.heap.push (.cells c e) } c e:=.of rfl rfl rfl rfl
theorem qfx (hT:Tys P T) (k:Rel A φ h w) {o:Oper} {e:TypeId} (ho:o.op=.alloc e) {ti:TI} (hti:jku T e=some ti) (hv:qm4 h e ti.zero=some (v,h')) :
 jdb A (fun _=>False) φ h w v h' ((execOp ρ o).run P w):=by
 obtain⟨z,hz,hza,_⟩:=(hT e ti hti).run_zero (w:=w)
 obtain⟨a1,a2⟩:=jm2 (hza A φ)
 obtain⟨φ',s,r,e1,rfl,_⟩:=jd5 k hv (jk2 z.cells e) a1 a2
 refine⟨.value (.pointer (some ⟨w.heap.size,0,none⟩)),.pointer (some ⟨w.heap.size,0,none⟩),_,φ',?_,rfl,s,r,⟨_,e1,rfl⟩⟩
 simp only[execOp,ho,Instr.alloc,Sem.run_bind,hz,Result.andThen_ok,jq0,Sem.run_pure]
theorem qfy {o:Oper} (hE:jqk A φ π loc st fr o.op.operands.toList ρ) (k:Rel A φ h w) {e:TypeId} {x:Operand} {y:Od} (ho:o.op=.box e x) (hy:cO π loc x=some y) (hv:qm5 st fr h e y=some (v,h')) :
 jdb A (fun _=>False) φ h w v h' ((execOp ρ o).run P w):=by
 obtain⟨u,hu,hv1⟩:=jaa.1 hv
 obtain⟨cs,hv1,ha⟩:=(hE _ (by rw[ho];simp[Op.operands]) _ _ hy hu).cells hv1
 obtain⟨a1,a2⟩:=jm2 ha
 obtain⟨φ',s,r,e1,rfl,_⟩:=jd5 k hv1 (jk2 (ρ x).cells e) a1 a2
 refine⟨.value (.pointer (some ⟨w.heap.size,0,none⟩)),.pointer (some ⟨w.heap.size,0,none⟩),_,φ',?_,rfl,s,r,⟨_,e1,rfl⟩⟩
 simp only[execOp,ho,Instr.box,Sem.run_bind,Result.andThen_ok,jq0,Sem.run_pure]
theorem jq1 {zs:List SV} {z:Array Value} (ha:All2 (cS A φ) zs z.toList) (h0:zs.length≠0) (n m:Nat) (hm:m=n*z.size):All2 (cS A φ) (rep zs n) ((Array.range m).map (z[· % z.size]!)).toList:=by
 subst hm
 have hl:=ha.len
 simp only[f2f] at hl
 refine All2.of_get (by rw[jrx];simp[hl]) ?_
 intro i a b hi hb
 have hin:i<n*zs.length:=by
  rcases f0k i (n*zs.length) with h | h
  .exact h
  .rw [f0r (by rw[jrx];omega)] at hi;cases hi
 rw[j4a zs n i hin] at hi
 obtain⟨v,hv,hc⟩:=ha.get _ _ hi
 rw[f1e] at hv hb
 rw[hl] at hv hin
 rw[Array.getElem?_map,Array.getElem?_range] at hb
 rw[if_pos hin] at hb
 simp only[f10,Option.some.injEq] at hb
 rw[←hb,getElem!_def,hv]
 exact hc
theorem j2p (hT:Tys P T) {o:Oper} (hE:jqk A φ π loc st fr o.op.operands.toList ρ) (k:Rel A φ h w) {t:TypeId} {ps:Array (Nat×Operand)} (ho:o.op=.buildSlice t n ps) {z:TypeId×TI} (hz:jb5 T t=some z) (hn:Nat.ble (n*z.2.size) 16777216=true)
 {l:List (Nat×Nat×Od)} (hl:jgy π loc (fun i=>some (i*z.2.size,z.2.size)) ps.toList=some l) {v:AV} (hv:jzs st fr h z.1 z.2.size (rep z.2.zero n) n l=some (v,h')) :
 jdb A (fun _=>False) φ h w v h' ((execOp ρ o).run P w):=by
 obtain⟨k1,k2,k3⟩:=jbw hT hz
 obtain⟨zv,hzv,hza,hzl⟩:=k2.run_zero (w:=w)
 have hzs:zv.cells.size=z.2.size:=by have:=(hza A φ).len;simp at this;omega
 obtain⟨cs,hcs,hv1⟩:=jaa.1 hv
 have hble:=f0o hn
 have hb:=jq1 (hza A φ) (by omega) n (n*z.2.size) (by rw[hzs])
 obtain⟨arr',h1,h2⟩:=jho hE ps.toList l _ cs _ (fun p hp=>by rw[ho];simp[Op.operands];exact⟨p.1,by simpa using hp⟩) hl hcs hb
 obtain⟨a1,a2⟩:=jm2 h2
 obtain⟨φ',s,r,e1,rfl,_⟩:=jd5 k hv1 (jk2 arr' z.1) a1 a2
 have hps:(ps.map (fun x=>(x.1,ρ x.2))).toList=ps.toList.map (fun p=>(p.1,ρ p.2)):=by simp
 have hsz:arr'.size=n*z.2.size:=by
  have l1:=h2.len
  have:∀ (l:List (Nat×Nat×Od)) (cs cs':List SV),fill st fr l cs=some cs'->cs'.length=cs.length:=by
   intro l
   induction l with
   | nil=>intro cs cs' h;cases (show some cs=some cs' from h);rfl
   | cons p l ih =>
    obtain⟨off,m,y⟩:=p
    intro cs cs' h
    obtain⟨v,hv1,h3⟩:=jaa.1 (show ob (ev st fr y) (fun v=>cel v (fun xs=>oif (Nat.beq (jdg xs) m) (ob (jbp off xs cs) (fill st fr l)) none))=some cs' from h)
    have:∃ xs,oif (Nat.beq (jdg xs) m) (ob (jbp off xs cs) (fill st fr l)) none=some cs':=by
     cases v with
     | s x=>exact⟨_,h3⟩
     | agg l=>exact⟨_,h3⟩
     | _=>cases h3
    obtain⟨xs,h4⟩:=this
    obtain⟨_,h5⟩:=jac.1 h4
    obtain⟨c1,h6,h7⟩:=jaa.1 h5
    obtain⟨h8,rfl⟩:=(jfl _).1 h6
    rw[ih _ _ h7]
    simp;omega
  have l2:=this _ _ _ hcs
  rw[jrx,hzl] at l2
  simp at l1
  omega
 refine⟨.value (.slice (some ⟨w.heap.size,0,none⟩) n n),.slice (some ⟨w.heap.size,0,none⟩) n n,_,φ',?_,rfl,s,r,⟨_,_,_,e1,rfl,f0e _,f0e _,fun _=>rfl,.inl ⟨by simp,by simp[hsz]⟩⟩⟩
 have hgt:¬ (n*z.2.size>2 ^ 24):=by omega
 by_cases h0:n*z.2.size=0
 .have hn0:n=0:=by rcases Nat.mul_eq_zero.1 h0 with h | h<;>omega
  have hr0:(Array.range (n*z.2.size)).map (zv.cells[· % zv.cells.size]!)=#[]:=by rw[h0];simp
  rw[hr0] at h1
  subst hn0
  have hgt':¬ (0>2 ^ 24):=by decide
  have hr1:(Array.range 0).map (fun x=>(#[]:Array Value)[x % (#[]:Array Value).size]!)=#[]:=by simp
  simp only[execOp,ho,Instr.buildSlice,Sem.run_bind,run_underlying k1,Result.andThen_ok,k2.run_size,f12,hgt',if_false,if_true,Sem.run_pure,hps,hr1,h1]
  simp[newRow]
 .simp only[execOp,ho,Instr.buildSlice,Sem.run_bind,run_underlying k1,Result.andThen_ok,k2.run_size,hgt,if_false,h0,Sem.run_pure,hps,hzv]
  rw[h1]
  simp[newRow]
theorem jxp (hT:Tys P T) {o:Oper} (hE:jqk A φ π loc st fr o.op.operands.toList ρ) (k:Rel A φ h w) {t:TypeId} {l c:Operand} (ho:o.op=.makeSlice t l c) {z:TypeId×TI} (hz:jb5 T t=some z)
 {l' c':Od} (hl:cO π loc l=some l') (hc:cO π loc c=some c') {v:AV} (hv:jf0 st fr h z.1 z.2.size z.2.bytes z.2.zero l' c'=some (v,h')) :
 jdb A (fun _=>False) φ h w v h' ((execOp ρ o).run P w):=by
 obtain⟨k1,k2,k3⟩:=jbw hT hz
 obtain⟨i,zv,d,q1,q2,q3,q4,hza,_,_,_,hzl⟩:=k2.ex
 have hzs:zv.cells.size=z.2.size:=by have:=(hza A φ).len;simp at this;omega
 obtain⟨u,hu,hv1⟩:=jaa.1 hv
 obtain⟨u',hu',hv2⟩:=jaa.1 hv1
 obtain⟨m,rfl,hv3⟩:=jew hv2
 obtain⟨n,rfl,hv4⟩:=jew hv3
 obtain⟨h1,hv5⟩:=jac.1 hv4
 obtain⟨h2,hv6⟩:=jac.1 hv5
 obtain⟨h3,hv7⟩:=jac.1 hv6
 have hmn:=f0o h1
 have hb:z.2.bytes*n<=1000000000:=f0o h2
 have hn:=f0o h3
 have e1:ρ l=.int .i64 (m:Int):=hE _ (by rw[ho];simp[Op.operands]) _ _ hl hu
 have e2:ρ c=.int .i64 (n:Int):=hE _ (by rw[ho];simp[Op.operands]) _ _ hc hu'
 have hbytes:(i.bytes:Int)*(n:Int)<=281474976710656:=by
  rw[q4,←Int.natCast_mul];omega
 have hr:=run_make (P:=P) w t z.1 i zv k1 q1 q2 .i64 .i64 m n (by omega) (by omega) hbytes (by omega)
 simp only[f14] at hr
 have hm:=jq1 (hza A φ) (by omega) n (n*i.size) (by rw[hzs,q3])
 obtain⟨a1,a2⟩:=jm2 hm
 obtain⟨φ',s,r,e3,rfl,_⟩:=jd5 k hv7 (Grown.alloc w (madeCells zv.cells (n*i.size)) z.1) a1 a2
 refine⟨.value (.slice (some ⟨w.heap.size,0,none⟩) m n),.slice (some ⟨w.heap.size,0,none⟩) m n,_,φ',?_,rfl,s,r,⟨_,_,_,e3,rfl,f0e _,hmn,fun _=>rfl,.inl ⟨by simp,?_⟩⟩⟩
 .simp only[execOp,ho,e1,e2,Sem.run_bind,hr,Result.andThen_ok,Sem.run_pure]
 .simp [size_madeCells,q3]
theorem qag (hT:Tys P T) {o:Oper} (hE:jqk A φ π loc st fr o.op.operands.toList ρ) (k:Rel A φ h w) {t:TypeId} {x:Operand} (ho:o.op=.load t x) {ti:TI} (hti:jku T t=some ti) (h1:ti1 ti=true)
 {y:Od} (hy:cO π loc x=some y) {v:AV} (hv:jja st fr h ti.size ti.agg y=some (v,h')) :
 h'=h/\∃ rv,(execOp ρ o).run P w=.ok (.value rv) w/\cV A φ v rv:=by
 have kt:=hT t ti hti
 obtain⟨u,hu,hv1⟩:=jaa.1 hv
 have src:∃ b o cs v' vs,ρ x=.pointer (some ⟨b,o,none⟩)/\jfz ti.agg cs=some v'/\ok v' h=some (v,h')/\All2 (cS A φ) cs vs/\vs.length=ti.size/\∀ (j:Nat) (u:Value),vs[j]?=some u->w.cell? ⟨b,o+j,none⟩=some u:=by
  rcases jcx hv1 with⟨b,off,rfl,hv2⟩ | ⟨cs0,rfl,hv2⟩
  .obtain ⟨cs,hcs,hv3⟩:=jaa.1 hv2
   obtain⟨v',hv',hv4⟩:=jaa.1 hv3
   obtain⟨L,hL,hρ⟩:=(show jrz φ b off (ρ x) from hE _ (by rw[ho];simp[Op.operands]) _ _ hy hu)
   obtain⟨L',vs,e1,_,e2,e3,e4⟩:=jfn k hcs
   rw[hL] at e1
   cases e1
   exact⟨_,_,cs,v',vs,hρ,hv',hv4,e2,e3,e4⟩
  .obtain ⟨cs,hcs,hv3⟩:=jaa.1 hv2
   obtain⟨v',hv',hv4⟩:=jaa.1 hv3
   obtain⟨b,o,c,q1,hρ,q2⟩:=(show cS A φ (.cp cs0) (ρ x) from hE _ (by rw[ho];simp[Op.operands]) _ _ hy hu)
   obtain⟨hl,rfl⟩:=(jbf _).1 hcs
   obtain⟨vs,a1,a2,a3⟩:=jqz (R:=cD A φ.k) (cells:=cs0.take ti.size) (c:=c) (o:=o) (fun j x hx=>q2 j x (by
    rw[f2a] at hx
    split at hx
    .exact hx
    .cases hx))
   obtain⟨ty,hc⟩:=k.con b c q1
   refine⟨b,o,_,v',vs,hρ,hv',hv4,a1.mono (fun _ _ h=>h.toS),by rw[a2,f1r];omega,fun j u hj=>?_⟩
   simp only[World.cell?,hc]
   exact a3 j u hj
 obtain⟨b,o',cs,v',vs,hρ,hv',hv4,e2,e3,e4⟩:=src
 cases hv4
 refine⟨rfl,?_⟩
 rcases jg3 hv' with⟨e,rfl⟩ | ⟨e,s,rfl,rfl⟩
 .refine ⟨.agg vs.toArray,?_,vs,rfl,e2⟩
  have hl:=run_loadCells_list (P:=P) w ⟨b,o',none⟩ vs (fun j u hj=>by rw[jb9];exact e4 j u hj)
  rw[e3] at hl
  simp only[execOp,ho,Instr.loadAt,Instr.sureAddr,hρ,Sem.run_bind,Sem.run_pure,Result.andThen_ok,loadVar,kt.run_agg,e,if_true,kt.run_size,hl]
 .cases e2 with
  | @cons _ rv _ rest hc _ =>
   refine⟨rv,?_,hc⟩
   have h4:=e4 0 rv rfl
   rw[f1i] at h4
   simp only[execOp,ho,Instr.loadAt,Instr.sureAddr,hρ,Sem.run_bind,Sem.run_pure,Result.andThen_ok,loadVar,kt.run_agg,e,f04,if_false,run_load,h4]
theorem j4l (hT:Tys P T) {o:Oper} (hE:jqk A φ π loc st fr o.op.operands.toList ρ) (k:Rel A φ h w) {t:TypeId} {x y:Operand} (ho:o.op=.store t x y) {ti:TI} (hti:jku T t=some ti)
 {x' y':Od} (hx:cO π loc x=some x') (hy:cO π loc y=some y') {v:AV} (hv:jxh st fr h ti.size x' y'=some (v,h')) :
 jdb A (jxf h (jbz st fr (.a (.store ti.size x' y')))) φ h w v h' ((execOp ρ o).run P w)/\jdb A (fun n=>h.lo<=n) φ h w v h' ((execOp ρ o).run P w):=by
 have kt:=hT t ti hti
 obtain⟨p,hp,hv1⟩:=jaa.1 hv
 obtain⟨u,hu,hv2⟩:=jaa.1 hv1
 obtain⟨b,off,rfl,hv3⟩:=jf2 hv2
 obtain⟨cs,hv3,ha⟩:=(hE _ (by rw[ho];simp[Op.operands]) _ _ hy hu).cells hv3
 obtain⟨hl,hv4⟩:=jac.1 hv3
 obtain⟨h1,hw,hv5⟩:=jaa.1 hv4
 cases hv5
 rw[jgw,jbm] at hl
 obtain⟨L,hL,hρ⟩:=(show jrz φ b off (ρ x) from hE _ (by rw[ho];simp[Op.operands]) _ _ hx hp)
 obtain⟨hlo,_⟩:=jnv hw
 obtain⟨L',c,ty,e1,_,e2,e3,e4⟩:=k.put hw ha
 rw[hL] at e1
 cases e1
 have hst:=run_storeCells_at P L.b (L.o+off) ty (ρ y).cells.toList 0 c w e2 (by simpa using e3) (jr6 ha)
 obtain⟨s,r⟩:=e4 _ (Changed.row e2 _)
 have hcls:jbz st fr (.a (.store ti.size x' y'))=.app b:=by
  show jva (ob (ev st fr x') (fun v=>jqv v (fun b _=>some b))) .app=_
  rw[hp];rfl
 have hm:jdb A (fun n=>n=b) φ h w .undef h' ((execOp ρ o).run P w):=by
  refine⟨.skip,undef,_,φ,?_,rfl,s,r,rfl⟩
  have hsz:(ρ y).cells.size=ti.size:=by have:=ha.len;simp at this;omega
  simp only[execOp,ho,Instr.storeAt,Instr.sureAddr,hρ,Sem.run_bind,Sem.run_pure,Result.andThen_ok,storeVar,kt.run_size,hsz,ne_eq,not_true_eq_false,if_false,hst,f1i]
 rw[hcls]
 exact⟨hm,hm.mono (fun n e=>by subst e;exact hlo)⟩
theorem jq2 (t ty e:TypeId) (i:TypeInfo) (ht:P.underlying t=some (.slice e)) (hi:P.info? e=some i)
 (b off n cap:Nat) (cur:Array Value) (ety:TypeId) (hg:w.heap[b]?=some (.cells cur ety (0,0)))
 (a:Addr) (m c:Nat) (news:List Value) (hl:news.length=m*i.size) (hnews:∀ j u,news[j]?=some u->w.cell? (a.add j)=some u) (h1:∀ u∈news,u.oneCell'=true)
 (hroom:n+m<=cap) (hfit:off+n*i.size+news.length<=cur.size) :
 (Builtin.append_ #[t,t] ty #[.slice (some ⟨b,off,none⟩) n cap,.slice (some a) m c]).run P w =
  .ok (.slice (some ⟨b,off,none⟩) (n+m) cap) (w.setRow b (cur.toList.take (off+n*i.size)++news++cur.toList.drop (off+n*i.size+news.length)).toArray):=by
 have hf:=run_firstCells_some (P:=P) w i.size m a m c news hl hnews
 have hst:=run_storeCells_at P b (off+n*i.size) ety news 0 cur w hg (by simpa using hfit) h1
 simp only[f1i] at hst
 simp[Builtin.append_,run_underlying ht,sizeOf,typeInfo,hi,Builtin.lenOf,hroom,hf,jb9,hst]
theorem jfo (t ty e:TypeId) (i:TypeInfo) (ht:P.underlying t=some (.slice e)) (hi:P.info? e=some i) (A0:Option Addr) (n cap:Nat) (hn:n<=cap) (B:Option Addr) (c:Nat) :
 (Builtin.append_ #[t,t] ty #[.slice A0 n cap,.slice B 0 c]).run P w=.ok (.slice A0 n cap) w:=by
 have hf:(Builtin.firstCells i.size 0 (.slice B 0 c)).run P w=.ok #[] w:=by
  cases B with
  | none=>rfl
  | some b=>simp[Builtin.firstCells,loadCells,loadCellsFrom]
 cases A0<;>simp[Builtin.append_,run_underlying ht,sizeOf,typeInfo,hi,Builtin.lenOf,hn,hf,storeCells]
theorem jca {o:Oper} {args:Array Operand} {t:TypeId} (ho:o.op=.call ⟨.builtin .append,args,#[t,t]⟩) {x y:Operand} (hargs:args.toList=[x,y]) {rv:Value}
 (hr:(Builtin.append_ #[t,t] o.type #[ρ x,ρ y]).run P w=.ok rv w'):(execOp ρ o).run P w=.ok (.value rv) w':=by
 have e:args.map ρ=#[ρ x,ρ y]:=by rw[←f2l,f3a,hargs];rfl
 simp only[execOp,ho,resolve,invoke,builtin,Sem.run_bind,Sem.run_pure,Result.andThen_ok,e,hr]
theorem jmf {c:Array Value} {ty:TypeId} (hb:w.heap[b]?=some (.cells c ty (0,0))) {k:Nat} (hn:n=0) :
 Changed w w b (c.toList.take k++[]++c.toList.drop (k+n)).toArray ty:=by
 subst hn
 refine⟨rfl,rfl,rfl,rfl,fun _ _=>rfl,?_⟩
 rw[hb]
 simp
theorem qfz (hT:Tys P T) {o:Oper} (hE:jqk A φ π loc st fr o.op.operands.toList ρ) (k:Rel A φ h w) {args:Array Operand} {t:TypeId} (ho:o.op=.call ⟨.builtin .append,args,#[t,t]⟩) {z:TypeId×TI} (hz:jb5 T t=some z)
 {x y:Operand} (hargs:args.toList=[x,y]) {x' y':Od} (hx:cO π loc x=some x') (hy:cO π loc y=some y') {v:AV} (hv:qfn st fr h z.1 z.2.size z.2.bytes x' y'=some (v,h')) :
 jdb A (fun n=>match jbz st fr (.a (.app z.1 z.2.size z.2.bytes x' y')) with | .app b=>n=b | _=>False) φ h w v h' ((execOp ρ o).run P w) /\
 jdb A (fun n=>h.lo<=n) φ h w v h' ((execOp ρ o).run P w):=by
 obtain⟨k1,k2,k3⟩:=jbw hT hz
 obtain⟨i,zv,d,q1,q2,q3,q4,hza,_,_,_,hzl⟩:=k2.ex
 obtain⟨u,hu,hv1⟩:=jaa.1 hv
 obtain⟨u',hu',hv2⟩:=jaa.1 hv1
 have stay:∀ (rv:Value),(execOp ρ o).run P w=.ok (.value rv) w->cV A φ v rv->h'=h ->
  jdb A (fun n=>match jbz st fr (.a (.app z.1 z.2.size z.2.bytes x' y')) with | .app b=>n=b | _=>False) φ h w v h' ((execOp ρ o).run P w)/\jdb A (fun n=>h.lo<=n) φ h w v h' ((execOp ρ o).run P w):=by
  intro rv hr hcv e
  subst e
  exact⟨⟨_,rv,w,φ,hr,rfl,Step.refl _ k rfl rfl rfl rfl,k,hcv⟩,⟨_,rv,w,φ,hr,rfl,Step.refl _ k rfl rfl rfl rfl,k,hcv⟩⟩
 have hX:=hE _ (by rw[ho];exact jcm (by rw[hargs];simp)) _ _ hx hu
 have hY:=hE _ (by rw[ho];exact jcm (by rw[hargs];simp)) _ _ hy hu'
 have core:∀ (m:Nat) (new:List SV) (ad':Addr) (cap':Nat) (news:List Value),ρ y=.slice (some ad') m cap'->All2 (cS A φ) new news->news.length=m*z.2.size->(∀ (j:Nat) (u:Value),news[j]?=some u->w.cell? (ad'.add j)=some u) ->
  jxi h z.1 z.2.size z.2.bytes m u new=some (v,h')->jdb A (fun n=>match jbz st fr (.a (.app z.1 z.2.size z.2.bytes x' y')) with | .app b=>n=b | _=>False) φ h w v h' ((execOp ρ o).run P w)/\jdb A (fun n=>h.lo<=n) φ h w v h' ((execOp ρ o).run P w):=by
  intro m new ad' cap' news eY hnv hnl hcells hv5
  have hnl':news.length=m*i.size:=by rw[hnl,q3]
  have hone:=jr6 hnv
  have hnlen:=hnv.len
  rcases jaz hv5 with⟨rfl,hv6⟩ | ⟨b,off,n,mc,ex,sz,rfl,hv6⟩ | ⟨rows,rfl,hv6⟩ | ⟨rfl,hv6⟩
  rotate_left 2
  .cases hv6
  ·
   obtain⟨adx,eX⟩:=(show cS A φ .emp (ρ x) from hX)
   cases m with
   | zero =>
    cases hv6
    refine stay (.slice (some adx) 0 0) (jca ho hargs ?_) ⟨adx,rfl⟩ rfl
    rw[eX,eY]
    exact jfo t _ _ i k1 q1 (some adx) 0 0 (f0e _) _ _
   | succ m =>
    obtain⟨hb,hv7⟩:=jac.1 (show oif (Nat.ble (Nat.mul (m+1) z.2.bytes) 1000000000) (oif (Nat.ble (m+1) 1000000000) (nw h new z.1 (fun k h=>ok (.s (.slice k 0 (m+1) (m+1) false z.2.size)) h)) none) none=some (v,h') from hv6)
    obtain⟨hm,hv8⟩:=jac.1 hv7
    have hb':(m+1)*z.2.bytes<=1000000000:=f0o hb
    have hm':=f0o hm
    have hr:=run_append_grow (P:=P) w t o.type z.1 i zv k1 q1 q2 adx 0 0 [] (by simp) (by simp) ad' (m+1) cap' news hnl' hcells (by omega) (by omega) (growslice_fits (by omega) (by rw[q4,f0w];omega))
    rw[f0w] at hr
    have hcap:=grownCap_ge w (m+1) 0 z.1
    have hzs:zv.cells.size=z.2.size:=by have:=(hza A φ).len;simp at this;omega
    obtain⟨φ',s,r,e1,rfl,_⟩:=jd5 k hv8 (Grown.drew w ([].toArray++news.toArray++Builtin.zeroCells zv.cells (grownCap w (m+1) 0 z.1 - (m+1))) z.1) (by simp;omega)
     (fun i sv hi=>by
      obtain⟨u,h1,h2⟩:=hnv.get i sv hi
      refine⟨u,?_,h2⟩
      have hlt:=(f00.1 h1).1
      rw[f2d (by simpa using hlt)]
      simpa using h1)
    have fin:(execOp ρ o).run P w=.ok (.value (.slice (some ⟨w.heap.size,0,none⟩) (m+1) (grownCap w (m+1) 0 z.1))) _:=jca ho hargs (by rw[eX,eY];exact hr)
    have hcs:cV A φ' (.s (.slice h.next 0 (m+1) (m+1) false z.2.size)) (.slice (some ⟨w.heap.size,0,none⟩) (m+1) (grownCap w (m+1) 0 z.1)):=by
     refine⟨_,_,_,e1,rfl,hcap,f0e _,(fun h=>nomatch h),.inl ⟨by simp,?_⟩⟩
     simp only[Array.size_append,f3f,f1l,size_zeroCells,hnl',hzs,q3,f0w]
     rw[←f3d,Nat.add_sub_cancel' hcap]
     omega
    exact⟨⟨_,_,_,φ',fin,rfl,s.mono (fun _ h=>h.elim),r,hcs⟩,⟨_,_,_,φ',fin,rfl,s.mono (fun _ h=>h.elim),r,hcs⟩⟩
  ·
   have eX:ρ x=.slice none 0 0:=hX
   cases m with
   | zero =>
    cases hv6
    refine stay (.slice none 0 0) (jca ho hargs ?_) rfl rfl
    rw[eX,eY]
    exact jfo t _ _ i k1 q1 none 0 0 (f0e _) _ _
   | succ m =>
    obtain⟨hb,hv7⟩:=jac.1 (show oif (Nat.ble (Nat.mul (m+1) z.2.bytes) 1000000000) (oif (Nat.ble (m+1) 1000000000) (nw h new z.1 (fun k h=>ok (.s (.slice k 0 (m+1) (m+1) false z.2.size)) h)) none) none=some (v,h') from hv6)
    obtain⟨hm,hv8⟩:=jac.1 hv7
    have hb':(m+1)*z.2.bytes<=1000000000:=f0o hb
    have hm':=f0o hm
    have hr:=run_append_nil (P:=P) w t o.type z.1 i zv k1 q1 q2 ad' (m+1) cap' news hnl' hcells (by omega) (by omega) (by rw[q4];omega)
    have hcap:=grownCap_ge w (m+1) 0 z.1
    have hzs:zv.cells.size=z.2.size:=by have:=(hza A φ).len;simp at this;omega
    obtain⟨φ',s,r,e1,rfl,_⟩:=jd5 k hv8 (Grown.drew w (news.toArray++Builtin.zeroCells zv.cells (grownCap w (m+1) 0 z.1 - (m+1))) z.1) (by simp;omega)
     (fun i sv hi=>by
      obtain⟨u,h1,h2⟩:=hnv.get i sv hi
      refine⟨u,?_,h2⟩
      have hlt:=(f00.1 h1).1
      rw[f2d (by simpa using hlt)]
      simpa using h1)
    have fin:(execOp ρ o).run P w=.ok (.value (.slice (some ⟨w.heap.size,0,none⟩) (m+1) (grownCap w (m+1) 0 z.1))) _:=jca ho hargs (by rw[eX,eY];exact hr)
    have hcs:cV A φ' (.s (.slice h.next 0 (m+1) (m+1) false z.2.size)) (.slice (some ⟨w.heap.size,0,none⟩) (m+1) (grownCap w (m+1) 0 z.1)):=by
     refine⟨_,_,_,e1,rfl,hcap,f0e _,(fun h=>nomatch h),.inl ⟨by simp,?_⟩⟩
     simp only[Array.size_append,f3f,size_zeroCells,hnl',hzs,q3]
     rw[←f3d,Nat.add_sub_cancel' hcap]
     omega
    exact⟨⟨_,_,_,φ',fin,rfl,s.mono (fun _ h=>h.elim),r,hcs⟩,⟨_,_,_,φ',fin,rfl,s.mono (fun _ h=>h.elim),r,hcs⟩⟩
  .obtain ⟨L,ad,cap,p1,p2,p3,p4,p5,p6⟩:=(show cS A φ (.slice b off n mc ex sz) (ρ x) from hX)
   have hcls:jbz st fr (.a (.app z.1 z.2.size z.2.bytes x' y'))=.app b:=by
    show jva (ob (ev st fr x') (fun v=>ji9 v none (fun b _ _ _ _ _=>some b))) .app=_
    rw[hu];rfl
   rw[hcls]
   obtain⟨hsz,hv9⟩:=jac.1 hv6
   obtain rfl:=f0n hsz
   rw[jau] at hv9
   split at hv9
   ·
    rename_i hroom
    have hroom':n+m<=mc:=f0o hroom
    obtain⟨h1,hw,hv10⟩:=jaa.1 hv9
    cases hv10
    obtain⟨hlo,_⟩:=jnv hw
    obtain⟨L',c,ty,e1,_,e2,e3,e4⟩:=k.put hw hnv
    rw[p1] at e1
    cases e1
    have e3':L.o+(off+n*z.2.size)+news.length<=c.size:=e3
    have fin:∃ w',(execOp ρ o).run P w=.ok (.value (.slice (some ad) (n+m) cap)) w'/\Changed w w' L.b (c.toList.take (L.o+(off+n*z.2.size))++news++c.toList.drop (L.o+(off+n*z.2.size)+news.length)).toArray ty:=by
     rcases p6 with⟨rfl,p7⟩ | p6
     .refine ⟨_,jca ho hargs (by rw[p2,eY];exact jq2 t _ _ i k1 q1 L.b (L.o+off) n cap c ty e2 ad' m cap' news hnl' hcells hone (by omega) (by rw[q3];omega)),?_⟩
      rw[q3,f1x]
      exact Changed.row e2 _
     .have hm0:m=0:=by omega
      have hn0:n=0:=by omega
      subst hm0 hn0
      have hnil:news=[]:=f1m (by rw[hnl',f12])
      refine⟨w,jca ho hargs (by rw[p2,eY];exact jfo t _ _ i k1 q1 (some ad) 0 cap (by omega) _ _),?_⟩
      rw[hnil]
      exact jmf e2 rfl
    obtain⟨w',fin,hch⟩:=fin
    obtain⟨s,r⟩:=e4 w' hch
    have hcs:cV A φ (.s (.slice b off (n+m) mc ex z.2.size)) (.slice (some ad) (n+m) cap):=⟨L,ad,cap,p1,rfl,p3,hroom',p5,p6⟩
    exact⟨⟨_,_,w',φ,fin,rfl,s,r,hcs⟩,⟨_,_,w',φ,fin,rfl,s.mono (fun n e=>by subst e;exact hlo),r,hcs⟩⟩
   .rename_i hroom
    have hroom':mc<n+m:=by
     rcases f0k mc (n+m) with h | h
     .exact h
     .exact absurd ((jry _ _).symm▸h:Nat.ble (Nat.add n m) mc=true) hroom
    obtain⟨hb,hv11⟩:=jac.1 (show oif (Nat.ble (Nat.mul (Nat.add n m) z.2.bytes) 1000000000) (oif (Nat.ble (Nat.add n m) 1000000000) (jno h z.1 z.2.size b off n m ex new) none) none=some (v,h') from hv9)
    obtain⟨hm,hv12⟩:=jac.1 hv11
    have hb':(n+m)*z.2.bytes<=1000000000:=f0o hb
    have hm':n+m<=1000000000:=f0o hm
    obtain⟨ab,hab,hv13⟩:=jaa.1 hv12
    cases ab with
    | map va es=>cases hv13
    | arr cs ty =>
    obtain⟨old,hold,hv14⟩:=jaa.1 (show ob (jb2 (Nat.mul n z.2.size) (jb8 off cs)) (fun old=>Bool.rec (motive:=fun _=>R)
     (oif (Nat.ble h.lo b) (oif (Nat.beq ty z.1) (nw (h.put b none) (jgi old new) z.1 (fun k h=>ok (.s (.slice k 0 (Nat.add n m) (Nat.add n m) false z.2.size)) h)) none) none)
     (nw h (jgi old new) z.1 (fun k h=>ok (.s (.slice k 0 (Nat.add n m) (Nat.add n m) false z.2.size)) h)) ex)=some (v,h') from hv13)
    have hrd:rd h b off (Nat.mul n z.2.size)=some old:=by
     show ob (h.get b) _=_
     rw[hab];exact hold
    obtain⟨L',olds,e1,hgs,hov,hol,hocells⟩:=jfn k hrd
    rw[p1] at e1
    cases e1
    have hol':olds.length=n*i.size:=by rw[hol,q3];rfl
    have holen:=hov.len
    have hocells':∀ j u,olds[j]?=some u->w.cell? (ad.add j)=some u:=by
     intro j u hj
     rcases p6 with⟨rfl,_⟩ | p6
     .rw [jb9];exact hocells j u hj
     .have:olds=[]:=f1m (by rw[hol'];have:n=0:=by omega
                            rw[this,f12])
      rw[this] at hj;cases hj
    have hzs:zv.cells.size=z.2.size:=by have:=(hza A φ).len;simp at this;omega
    rw[jc9] at hv14
    have hon:=hov.append hnv
    have hsm:(n+m)*i.bytes<=140737488355328:=by rw[q4];omega
    have grow:cap<n+m->∃ w1,Grown w w1 (olds.toArray++news.toArray++Builtin.zeroCells zv.cells (grownCap w (n+m) cap z.1 - (n+m))) z.1 /\
     (execOp ρ o).run P w=.ok (.value (.slice (some ⟨w.heap.size,0,none⟩) (n+m) (grownCap w (n+m) cap z.1))) w1:=by
     intro hg
     refine⟨_,Grown.drew w _ z.1,jca ho hargs ?_⟩
     rw[p2,eY]
     exact run_append_grow (P:=P) w t o.type z.1 i zv k1 q1 q2 ad n cap olds hol' hocells' ad' m cap' news hnl' hcells hg (by omega) (growslice_fits hg hsm)
    have hlen:(old++new).length=(n+m)*z.2.size:=by
     rw[f0j,holen,hnlen,hol,hnl];exact(f3d _ _ _).symm
    have hget:∀ (c:Array Value) (j:Nat) sv,(old++new)[j]?=some sv->∃ u,(olds.toArray++news.toArray++c)[j]?=some u/\cS A φ sv u:=by
     intro c j sv hj
     obtain⟨u,h1,h2⟩:=hon.get j sv hj
     have hlt:=(f00.1 h1).1
     refine⟨u,?_,h2⟩
     rw[f2d (by simpa using hlt)]
     rw[←f20] at h1
     simpa using h1
    have hcap:=grownCap_ge w (n+m) cap z.1
    have hsize:(olds.toArray++news.toArray++Builtin.zeroCells zv.cells (grownCap w (n+m) cap z.1 - (n+m))).size=grownCap w (n+m) cap z.1*z.2.size:=by
     simp only[Array.size_append,f3f,size_zeroCells,hol',hnl',hzs,q3]
     rw[←f3d,←f3d,Nat.add_sub_cancel' hcap]
    have hle:(n+m)*z.2.size<=grownCap w (n+m) cap z.1*z.2.size:=Nat.mul_le_mul_right _ hcap
    cases ex with
    | true =>
     have hcm:=p5 rfl
     obtain⟨w1,g,fin⟩:=grow (by omega)
     obtain⟨φ',s,r,e1,rfl,_⟩:=jd5 k (show nw h (old++new) z.1 (fun k h=>ok (.s (.slice k 0 (Nat.add n m) (Nat.add n m) false z.2.size)) h)=some (v,h') from hv14) g (by rw[hlen,hsize];exact hle) (hget _)
     have hcs:cV A φ' (.s (.slice h.next 0 (n+m) (n+m) false z.2.size)) (.slice (some ⟨w.heap.size,0,none⟩) (n+m) (grownCap w (n+m) cap z.1)) :=
      ⟨_,_,_,e1,rfl,hcap,f0e _,(fun h=>nomatch h),.inl ⟨by simp,by rw[hsize];simp⟩⟩
     exact⟨⟨_,_,_,φ',fin,rfl,s.mono (fun _ h=>h.elim),r,hcs⟩,⟨_,_,_,φ',fin,rfl,s.mono (fun _ h=>h.elim),r,hcs⟩⟩
    | false =>
     obtain⟨hlo,hv15⟩:=jac.1 (show oif (Nat.ble h.lo b) (oif (Nat.beq ty z.1) (nw (h.put b none) (old++new) z.1 (fun k h=>ok (.s (.slice k 0 (Nat.add n m) (Nat.add n m) false z.2.size)) h)) none) none=some (v,h') from hv14)
     obtain⟨hty,hv16⟩:=jac.1 hv15
     have hlo':h.lo<=b:=f0o hlo
     obtain rfl:ty=z.1:=f0n hty
     by_cases hg:cap<n+m
     .obtain ⟨w1,g,fin⟩:=grow hg
      obtain⟨s1,r1⟩:=k.kill hgs
      obtain⟨φ',s,r,e1,rfl,_⟩:=jd5 r1 hv16 g (by rw[hlen,hsize];exact hle) (hget _)
      rw[Hp.next_put] at e1
      have s2:=s1.trans (s.mono (V:=fun n=>n=b) (fun _ h=>h.elim))
      have hcs:cV A φ' (.s (.slice (h.put b none).next 0 (n+m) (n+m) false z.2.size)) (.slice (some ⟨w.heap.size,0,none⟩) (n+m) (grownCap w (n+m) cap z.1)):=by
       rw[Hp.next_put]
       exact⟨_,_,_,e1,rfl,hcap,f0e _,(fun h=>nomatch h),.inl ⟨by simp,by rw[hsize];simp⟩⟩
      exact⟨⟨_,_,_,φ',fin,rfl,s2,r,hcs⟩,⟨_,_,_,φ',fin,rfl,s2.mono (fun n e=>by subst e;exact hlo'),r,hcs⟩⟩
     ·
      have hcap0:0<cap:=by omega
      rcases p6 with⟨rfl,p7⟩ | p6
      rotate_left
      .omega
      obtain⟨L',c,e1,hc1,hc2,hc3,hc4⟩:=k.blk b _ hab
      rw[p1] at e1
      cases e1
      obtain⟨hn1,hn2,hv17⟩:=jr0 hv16
      cases hv17
      rw[Hp.next_put] at hn1 hn2
      rw[Hp.hid_put] at hn2
      have hmul:(n+m)*z.2.size<=cap*z.2.size:=Nat.mul_le_mul_right _ (by omega)
      rw[f3d] at hmul
      have hnl2:news.length=m*z.2.size:=hnl
      have hfin:=jca (P:=P) (ρ:=ρ) (w:=w) (rv:=.slice (some ⟨L.b,L.o+off,none⟩) (n+m) cap) ho hargs (by rw[p2,eY];exact jq2 t _ _ i k1 q1 L.b (L.o+off) n cap c _ hc1 ad' m cap' news hnl' hcells hone (by omega) (by rw[q3];omega))
      rw[q3] at hfin
      obtain⟨s,r⟩:=k.app hab p1 hc2 hn1 hn2 (Changed.row hc1 (c.toList.take (L.o+off+n*z.2.size)++news++c.toList.drop (L.o+off+n*z.2.size+news.length)).toArray) (by simp;omega) (L.o+off) (cs:=old++new) (by rw[hlen,f3d];omega)
       (fun j sv hj=>by
        rw[f2o] at hj
        simp only[f20,f0i]
        split at hj
        .rename_i hlt
         obtain⟨u,h1,h2⟩:=hov.get j sv hj
         refine⟨u,?_,h2⟩
         have h3:=hocells j u h1
         simp only[World.cell?,hc1] at h3
         have hlt':j<n*z.2.size:=by rw[holen,hol] at hlt;exact hlt
         rw[f0u (by simp;omega),f13 (by omega)]
         simpa using h3
        .rename_i hge
         obtain⟨u,h1,h2⟩:=hnv.get _ sv hj
         refine⟨u,?_,h2⟩
         have hlt:=(f00.1 h1).1
         have hge':n*z.2.size<=j:=by rw[holen,hol] at hge;exact Nat.le_of_not_lt hge
         have hol2:old.length=n*z.2.size:=by rw[holen,hol];rfl
         rw[f0v (by simp;omega),f0u (by simp;omega),←h1]
         congr 1
         simp
         omega)
      have hcs:cV A (φ.add h.next ⟨L.b,L.o+off,L.lim⟩) (.s (.slice (h.put b none).next 0 (n+m) (n+m) false z.2.size)) (.slice (some ⟨L.b,L.o+off,none⟩) (n+m) cap):=by
       rw[Hp.next_put]
       exact⟨_,_,cap,Phi.add_same _ _ _,rfl,by omega,f0e _,(fun h=>nomatch h),.inl ⟨by simp,by simp;omega⟩⟩
      exact⟨⟨_,_,_,_,hfin,rfl,s,r,hcs⟩,⟨_,_,_,_,hfin,rfl,s.mono (fun n e=>by subst e;exact hlo'),r,hcs⟩⟩
 have nothing:∀ (B:Option Addr) (c':Nat),ρ y=.slice B 0 c'->j9y u (ok u h)=some (v,h')->jdb A (fun n=>match jbz st fr (.a (.app z.1 z.2.size z.2.bytes x' y')) with | .app b=>n=b | _=>False) φ h w v h' ((execOp ρ o).run P w)/\jdb A (fun n=>h.lo<=n) φ h w v h' ((execOp ρ o).run P w):=by
  intro B c' eY hv3
  have key:∀ A0 n cap,ρ x=.slice A0 n cap->n<=cap->(execOp ρ o).run P w=.ok (.value (ρ x)) w:=fun A0 n cap e hn=>by
   refine jca ho hargs ?_
   rw[e,eY]
   exact jfo t _ _ i k1 q1 A0 n cap hn B c'
  rcases jaz hv3 with⟨rfl,hv4⟩ | ⟨b,off,n,mc,ex,sz,rfl,hv4⟩ | ⟨rows,rfl,hv4⟩ | ⟨rfl,hv4⟩
  .cases hv4
   exact stay _ (key _ _ _ (show ρ x=.slice none 0 0 from hX) (f0e _)) hX rfl
  .cases hv4
   obtain⟨L,ad,cap,p1,p2,p3,p4,_⟩:=(show cS A φ (.slice b off n mc ex sz) (ρ x) from hX)
   exact stay _ (key _ _ _ p2 (by omega)) hX rfl
  .cases hv4
   obtain⟨ad,cap,p1,p2,_⟩:=jfm (show cD A φ.k (.lst rows) (ρ x) from hX)
   exact stay _ (key _ _ _ p1 p2) hX rfl
  .cases hv4
   obtain⟨ad,p1⟩:=(show cS A φ .emp (ρ x) from hX)
   exact stay _ (key _ _ _ p1 (f0e _)) hX rfl
 rcases jaz hv2 with⟨rfl,hv3⟩ | ⟨b',off',m,mc',ex',sz',rfl,hv3⟩ | ⟨rows,rfl,hv3⟩ | ⟨rfl,hv3⟩
 .exact nothing none 0 (show ρ y=.slice none 0 0 from hY) hv3
 .obtain ⟨new,hnew,hv5⟩:=jaa.1 hv3
  obtain⟨ad',cap',news,eY,hnv,hnl,hcells⟩:=jvg k (show cS A φ (.slice b' off' m mc' ex' sz') (ρ y) from hY) hnew (fun e=>by rw[e];exact f12 _)
  exact core m new ad' cap' news eY hnv hnl hcells hv5
 .obtain ⟨new,hnew,hv5⟩:=jaa.1 hv3
  obtain⟨ad',cap',news,eY,hnv,hnl,hcells⟩:=jhr k (show cD A φ.k (.lst rows) (ρ y) from hY) hnew
  rw[jbm] at hv5
  exact core rows.length new ad' cap' news eY hnv hnl hcells hv5
 .obtain ⟨ad,eY⟩:=(show cS A φ .emp (ρ y) from hY)
  exact nothing (some ad) 0 eY hv3
theorem jmg {o:Oper} {bi:Builtin} {args:Array Operand} {ts:Array TypeId} (ho:o.op=.call ⟨.builtin bi,args,ts⟩) :
 ∃ cs,(execOp ρ o).run P w=(builtin bi ts o.type cs (args.map ρ)).run P w:=by
 simp only[execOp,ho,resolve,invoke,Sem.run_bind,Sem.run_pure,Result.andThen_ok]
 exact⟨_,rfl⟩
theorem qah (hT:Tys P T) {o:Oper} (hE:jqk A φ π loc st fr o.op.operands.toList ρ) (k:Rel A φ h w) {args:Array Operand} {ts:Array TypeId} {t:TypeId} (ho:o.op=.call ⟨.builtin .copy,args,ts⟩) (ht:ts[0]?=some t) {z:TypeId×TI} (hz:jb5 T t=some z)
 {x y:Operand} (hargs:args.toList=[x,y]) {x' y':Od} (hx:cO π loc x=some x') (hy:cO π loc y=some y') {v:AV} (hv:j33 st fr h z.2.size x' y'=some (v,h')) :
 jdb A (fun n=>h.lo<=n) φ h w v h' ((execOp ρ o).run P w):=by
 obtain⟨k1,k2,k3⟩:=jbw hT hz
 obtain⟨u,hu,hv1⟩:=jaa.1 hv
 obtain⟨u',hu',hv2⟩:=jaa.1 hv1
 have e:args.map ρ=#[ρ x,ρ y]:=by rw[←f2l,f3a,hargs];rfl
 have hX:=hE _ (by rw[ho];exact jcm (by rw[hargs];simp)) _ _ hx hu
 have hY:=hE _ (by rw[ho];exact jcm (by rw[hargs];simp)) _ _ hy hu'
 have nothing:∀ A0 n c B m c',ρ x=.slice A0 n c->ρ y=.slice B m c'->(n=0∨m=0)->(execOp ρ o).run P w=.ok (.value (.int .i64 0)) w:=by
  intro A0 n c B m c' e1 e2 h0
  have hmin:Nat.min m n=0:=by
   show min m n=0
   rcases h0 with rfl | rfl<;>simp
  have hf:(Builtin.firstCells z.2.size 0 (.slice B m c')).run P w=.ok #[] w:=by
   cases B with
   | none=>rfl
   | some b=>simp[Builtin.firstCells,loadCells,loadCellsFrom]
  obtain⟨bs,hbs⟩:=jmg (P:=P) (w:=w) (ρ:=ρ) ho
  rw[hbs,e,e1,e2]
  cases A0<;>simp[builtin,Builtin.copy_,ht,run_underlying k1,Builtin.lenOf,hmin,k2.run_size,hf,storeCells,goInt]
 have stay:(execOp ρ o).run P w=.ok (.value (.int .i64 0)) w->ok (.s (.int .i64 0)) h=some (v,h')->jdb A (fun n=>h.lo<=n) φ h w v h' ((execOp ρ o).run P w):=by
  intro hr hv2
  cases hv2
  exact⟨_,_,w,φ,hr,rfl,Step.refl _ k rfl rfl rfl rfl,k,rfl⟩
 have from0:∀ A0 n c,ρ x=.slice A0 n c->n=0->j9y u' (ok (.s (.int .i64 0)) h)=some (v,h')->jdb A (fun n=>h.lo<=n) φ h w v h' ((execOp ρ o).run P w):=by
  intro A0 n c eX h0 hv3
  rcases jaz hv3 with⟨rfl,hv4⟩ | ⟨b',off',m,mc',ex',sz',rfl,hv4⟩ | ⟨rows,rfl,hv4⟩ | ⟨rfl,hv4⟩
  .exact stay (nothing _ _ _ _ _ _ eX (show ρ y=.slice none 0 0 from hY) (.inl h0)) hv4
  .obtain ⟨L,ad,cap,p1,p2,_⟩:=(show cS A φ (.slice b' off' m mc' ex' sz') (ρ y) from hY)
   exact stay (nothing _ _ _ _ _ _ eX p2 (.inl h0)) hv4
  .obtain ⟨ad,cap,p1,_⟩:=jfm (show cD A φ.k (.lst rows) (ρ y) from hY)
   exact stay (nothing _ _ _ _ _ _ eX p1 (.inl h0)) hv4
  .obtain ⟨ad,p1⟩:=(show cS A φ .emp (ρ y) from hY)
   exact stay (nothing _ _ _ _ _ _ eX p1 (.inl h0)) hv4
 rcases jaz hv2 with⟨rfl,hv3⟩ | ⟨b,off,n,mc,ex,sz,rfl,hv3⟩ | ⟨rows,rfl,hv3⟩ | ⟨rfl,hv3⟩
 .exact from0 _ _ _ (show ρ x=.slice none 0 0 from hX) rfl hv3
 rotate_left
 .cases hv3
 .obtain ⟨ad,eX⟩:=(show cS A φ .emp (ρ x) from hX)
  exact from0 _ _ _ eX rfl hv3
 .obtain ⟨L,ad,cap,p1,p2,p3,p4,p5,p6⟩:=(show cS A φ (.slice b off n mc ex sz) (ρ x) from hX)
  have core:∀ (m:Nat) (ad':Addr) (cap':Nat) (cs:List SV) (news:List Value),ρ y=.slice (some ad') m cap'->All2 (cS A φ) cs news->news.length=Nat.min m n*z.2.size->(∀ (j:Nat) (u:Value),news[j]?=some u->w.cell? (ad'.add j)=some u) ->
   ob (wr h b off cs) (fun h=>ok (.s (.int .i64 (Int.ofNat (Nat.min m n)))) h)=some (v,h')->jdb A (fun n=>h.lo<=n) φ h w v h' ((execOp ρ o).run P w):=by
   intro m ad' cap' cs news eY hnv hnl hcells hv6
   obtain⟨h1,hw,hv7⟩:=jaa.1 hv6
   cases hv7
   obtain⟨hlo,_⟩:=jnv hw
   obtain⟨L',c,ty,e1,_,e2,e3,e4⟩:=k.put hw hnv
   rw[p1] at e1
   cases e1
   have fin:∃ w',(execOp ρ o).run P w=.ok (.value (.int .i64 (Nat.min m n))) w'/\Changed w w' L.b (c.toList.take (L.o+off)++news++c.toList.drop (L.o+off+news.length)).toArray ty:=by
    by_cases h0:n=0∨m=0
    .have hnil:news=[]:=f1m (by rw[hnl];show min m n*z.2.size=0;rcases h0 with rfl | rfl<;>simp)
     have hm0:Nat.min m n=0:=by show min m n=0;rcases h0 with rfl | rfl<;>simp
     refine⟨w,?_,by rw[hnil];exact jmf e2 rfl⟩
     rw[nothing _ _ _ _ _ _ p2 eY h0,hm0];rfl
    .have had:ad=⟨L.b,L.o+off,none⟩:=by
      rcases p6 with⟨h,_⟩ | h
      .exact h
      .omega
     have hf:=run_firstCells_some (P:=P) w z.2.size (Nat.min m n) ad' m cap' news hnl hcells
     have hst:=run_storeCells_at P L.b (L.o+off) ty news 0 c w e2 (by simpa using e3) (jr6 hnv)
     simp only[f1i] at hst
     refine⟨_,?_,Changed.row e2 _⟩
     obtain⟨bs,hbs⟩:=jmg (P:=P) (w:=w) (ρ:=ρ) ho
     rw[hbs,e,p2,eY]
     simp[builtin,Builtin.copy_,ht,run_underlying k1,Builtin.lenOf,k2.run_size,hf,had,hst,goInt]
   obtain⟨w',fin,hch⟩:=fin
   obtain⟨s,r⟩:=e4 w' hch
   exact⟨_,_,w',φ,fin,rfl,s.mono (fun n e=>by subst e;exact hlo),r,rfl⟩
  have hmin:∀ m,oif (Nat.ble n m) n m=Nat.min m n:=fun m=>by
   rw[jau]
   show _=min m n
   split
   .rename_i hh;rw[jry] at hh;omega
   .rename_i hh;rw[jry] at hh;omega
  rcases jaz hv3 with⟨rfl,hv5⟩ | ⟨b',off',m,mc',ex',sz',rfl,hv5⟩ | ⟨rows,rfl,hv5⟩ | ⟨rfl,hv5⟩
  .exact stay (nothing _ _ _ _ _ _ p2 (show ρ y=.slice none 0 0 from hY) (.inr rfl)) hv5
  .obtain ⟨cs,hcs,hv6⟩:=jaa.1 hv5
   rw[hmin] at hcs hv6
   obtain⟨ad',cap',news,eY,hnv,hnl,hcells⟩:=jvg k (show cS A φ (.slice b' off' m mc' ex' sz') (ρ y) from hY) hcs (fun e=>by
    show min m n*z.2.size=0
    rw[e];simp)
   exact core m ad' cap' cs news eY hnv hnl hcells hv6
  .obtain ⟨all,hall,hv6⟩:=jaa.1 hv5
   obtain⟨cs,hcs,hv7⟩:=jaa.1 hv6
   rw[jbm,hmin] at hcs hv7
   obtain⟨ad',cap',news,eY,hnv,hnl,hcells⟩:=jhr k (show cD A φ.k (.lst rows) (ρ y) from hY) hall
   obtain⟨hl,rfl⟩:=(jbf _).1 hcs
   refine core rows.length ad' cap' _ (news.take (Nat.mul (Nat.min rows.length n) z.2.size)) eY (hnv.take _) ?_ (fun j u hj=>?_) hv7
   .have:=hnv.len
    rw[f1r]
    exact Nat.min_eq_left (by omega)
   .rw [f2a] at hj
    split at hj
    .exact hcells j u hj
    .cases hj
  .obtain ⟨ad',p1'⟩:=(show cS A φ .emp (ρ y) from hY)
   exact stay (nothing _ _ _ _ _ _ p2 p1' (.inr rfl)) hv5
theorem j2q (hT:Tys P T) {o:Oper} (hE:jqk A φ π loc st fr o.op.operands.toList ρ) (k:Rel A φ h w) {t:TypeId} {x:Operand} (ho:o.op=.slice t x none none none) {z:Nat×TI} (hz:jk0 T t=some z)
 {x':Od} (hx:cO π loc x=some x') {v:AV} (hv:jrv st fr h z.1 z.2.size x'=some (v,h')) :
 jdb A (fun _=>False) φ h w v h' ((execOp ρ o).run P w):=by
 obtain⟨e,q1,q2,q3⟩:=jg4 hT hz
 obtain⟨u,hu,hv1⟩:=jaa.1 hv
 obtain⟨b,off,rfl,hv2⟩:=jf2 hv1
 obtain⟨xs,hxs,hv3⟩:=jaa.1 hv2
 have hv4:some (AV.s (.slice b off z.1 z.1 true z.2.size),h)=some (v,h'):=hv3
 simp only[Option.some.injEq,Prod.mk.injEq] at hv4
 obtain⟨rfl,rfl⟩:=hv4
 obtain⟨L,hL,hρ⟩:=(show jrz φ b off (ρ x) from hE _ (by rw[ho];simp[Op.operands]) _ _ hx hu)
 obtain⟨cs,ty,hg,rfl,hl⟩:=jr1 hxs
 obtain⟨L',c,e1,h3,h4,h5,h6⟩:=k.blk b _ hg
 rw[hL] at e1
 cases e1
 have hfit:L.o+off+z.1*z.2.size<=L.lim∨z.1*z.2.size=0:=by
  have hl':Nat.mul z.1 z.2.size=z.1*z.2.size:=rfl
  rw[hl'] at hl
  simp at hl
  omega
 have e0:∀ a:Addr,(if z.1=0 then a else a.add (0*z.2.size))=a:=by
  intro a
  split
  .rfl
  .rw [f12];unfold Addr.add;simp
 refine⟨.value (.slice (some ⟨L.b,L.o+off,none⟩) z.1 z.1),.slice (some ⟨L.b,L.o+off,none⟩) z.1 z.1,w,φ,?_,rfl,Step.refl _ k rfl rfl rfl rfl,k,⟨L,_,z.1,hL,rfl,f0e _,f0e _,fun _=>rfl,?_⟩⟩
 .simp [execOp,ho,Instr.sliceAt,Instr.sureAddr,run_underlying q1,Instr.sliceBounds,hρ,q2.run_size,Addr.add]
 .rcases hfit with h7 | h7
  .exact .inl ⟨rfl,h7⟩
  .exact .inr (by
    rcases Nat.mul_eq_zero.1 h7 with h8 | h8
    .exact h8
    .exact absurd h8 q3)
theorem jjm {β:Type} {v:SV} {f:List UInt8->Option β} {r:β} (h:qna v f=some r):∃ l,v=.str l/\f l=some r:=by
 cases v<;>first | exact⟨_,rfl,h⟩ | cases h
theorem jr7:∀ (l r:List UInt8),j98 l r=(l == r)
 | [],[]=>rfl
 | [],_::_=>rfl
 | _::_,[]=>rfl
 | a::l,b::r=>by
  show oif (Nat.beq a.toNat b.toNat) (j98 l r) false=_
  rw[jr7 l r]
  by_cases e:a=b
  .subst e
   rw[f1z]
   show(l == r)=_
   simp
  .have e':Nat.beq a.toNat b.toNat=false:=by
    cases h:Nat.beq a.toNat b.toNat with
    | false=>rfl
    | true=>exact absurd (UInt8.toNat_inj.1 (f0n h)) e
   rw[e']
   show false=_
   simp[e]
theorem jvh:∀ {l:List SV} {b:List UInt8},qfq l=some b->∃ ns:List Int,l=ns.map (SV.int .u8)/\b=ns.map (fun n=>UInt8.ofNat n.toNat)
 | [],b,h=>by cases h;exact⟨[],rfl,rfl⟩
 | a::l,b,h=>by
  obtain⟨k,n,rfl,h1⟩:=jjf (show j95 a (fun k n=>oif (Nat.beq (ikn k) 4) (ob (qfq l) (fun l=>some (UInt8.ofNat (Int.toNat n)::l))) none)=some b from h)
  obtain⟨h2,h3⟩:=jac.1 h1
  obtain⟨c,h4,h5⟩:=jaa.1 h3
  obtain⟨ns,rfl,rfl⟩:=jvh h4
  cases h5
  obtain rfl:k=.u8:=by cases k<;>first | rfl | cases h2
  exact⟨n::ns,rfl,rfl⟩
theorem j4m:∀ {ns:List Int} {news:List Value},All2 (cS A φ) (ns.map (SV.int .u8)) news->news=ns.map (Value.int .u8)
 | [],_,.nil=>rfl
 | n::ns,_,.cons h t=>by rw[j4m t];cases (show _=Value.int .u8 n from h);rfl
theorem jg7 {x y:Od} (hv:jgx st fr h n x y=some (v,h')):h'=h:=by
 cases n with
 | zero =>
  obtain⟨a,ha,h1⟩:=jaa.1 (show ob (ev st fr x) (fun v=>ob (qcq v) (fun l=>ok (.s (.str l)) h))=some (v,h') from hv)
  obtain⟨l,hl,h2⟩:=jaa.1 h1
  cases h2;rfl
 | succ k =>
  obtain⟨a,ha,h1⟩:=jaa.1 hv
  obtain⟨b,hb,h2⟩:=jaa.1 h1
  rcases jhm h2 with⟨s,rfl,h3⟩ | ⟨_,h3⟩
  .rcases jhm h3 with⟨t,rfl,h4⟩ | ⟨_,h4⟩
   .obtain ⟨l,rfl,h5⟩:=jjm h4
    obtain⟨r,rfl,h6⟩:=jjm h5
    cases h6;rfl
   .cases h4
  .cases h3
theorem jr8 (hT:Tys P T) {t:TypeId} (h:jgj T t=true):∃ e,P.underlying t=some (.slice e)/\P.underlying e=some (.int .u8):=by
 unfold jgj at h
 split at h
 .rename_i z hz
  obtain⟨h1,h2,_⟩:=jbw hT hz
  split at h
  .rename_i k hk
   obtain⟨d,h3,h4⟩:=h2.und
   rw[hk] at h4
   obtain rfl:k=.u8:=by cases k<;>first | rfl | cases h
   exact⟨_,h1,h3.trans (congrArg some h4)⟩
  .cases h
 .cases h
theorem qai (hT:Tys P T) {o:Oper} (hE:jqk A φ π loc st fr o.op.operands.toList ρ) (k:Rel A φ h w) {s d:TypeId} {x:Operand} (ho:o.op=.convert s d x) (hs:jgj T s=true) (hd:P.underlying d=some .string)
 {x' y':Od} (hx:cO π loc x=some x') {v:AV} (hv:jgx st fr h 0 x' y'=some (v,h')) :
 ∃ rv,(execOp ρ o).run P w=.ok (.value rv) w/\cV A φ v rv:=by
 obtain⟨e,q1,q2⟩:=jr8 hT hs
 obtain⟨a,ha,h1⟩:=jaa.1 (show ob (ev st fr x') (fun v=>ob (qcq v) (fun l=>ok (.s (.str l)) h))=some (v,h') from hv)
 obtain⟨l,hl,h2⟩:=jaa.1 h1
 cases h2
 have hX:cV A φ a (ρ x):=hE _ (by rw[ho];simp[Op.operands]) _ _ hx ha
 have run:∀ r,(convert s d (ρ x)).run P w=.ok r w->(execOp ρ o).run P w=.ok (.value r) w:=fun r hr=>by simp[execOp,ho,hr]
 have hz:l=[]->∀ ad,ρ x=.slice ad 0 0∨(∃ c,ρ x=.slice ad 0 c)->(convert s d (ρ x)).run P w=.ok (.string ⟨l.toArray⟩) w:=by
  rintro rfl ad hr
  have:∃ c,ρ x=.slice ad 0 c:=hr.elim (fun h=>⟨_,h⟩) id
  obtain⟨c,hr⟩:=this
  rw[hr]
  cases ad with
  | none=>rw[run_convert_bytes_nil w s e q1 q2 0 c d hd];rfl
  | some ad =>
   rw[run_convert_bytes_string w s d e (some ad) 0 c q1 q2 hd,run_bytesToString w ad 0 c [] (by
    have:=run_loadCells_list (P:=P) w ad [] (fun j v hj=>by cases hj)
    simpa using this)]
   rfl
 unfold qcq at hl
 cases a with
 | s sv =>
  cases sv with
  | nilSlice =>
   cases hl
   have hX':ρ x=.slice none 0 0:=hX
   exact⟨_,run _ (hz rfl none (.inl hX')),rfl⟩
  | emp =>
   cases hl
   obtain⟨ad,hX'⟩:=(show ∃ ad,ρ x=.slice (some ad) 0 0 from hX)
   exact⟨_,run _ (hz rfl (some ad) (.inl hX')),rfl⟩
  | lst rows =>
   obtain⟨xs,hxs,hl2⟩:=jaa.1 (show ob (jmp 1 rows) qfq=some l from hl)
   obtain⟨ns,rfl,rfl⟩:=jvh hl2
   obtain⟨ad,cap,news,eX,hnv,hnl,hcells⟩:=jhr k (show cD A φ.k (.lst rows) (ρ x) from hX) hxs
   have hn:=j4m hnv
   have hl2:=run_loadCells_list (P:=P) w ad news hcells
   rw[hnl,f28,hn] at hl2
   refine⟨_,run (.string ⟨(ns.map (fun n:Int=>UInt8.ofNat n.toNat)).toArray⟩) ?_,rfl⟩
   rw[eX,run_convert_bytes_string w s d e (some ad) rows.length cap q1 q2 hd,run_bytesToString w ad rows.length cap ns hl2,foldl_push_bytes]
   simp[ByteArray.empty,ByteArray.emptyWithCapacity]
   rfl
  | _=>cases hl
 | _=>cases hl
theorem j4n (hT:Tys P T) {o:Oper} (hE:jqk A φ π loc st fr o.op.operands.toList ρ) {op:BinOp} {t:TypeId} {x y:Operand} {yt:TypeId} (ho:o.op=.binOp op t x y yt) {neg:Bool} (hop:qnf op=some neg)
 {x' y':Od} (hx:cO π loc x=some x') (hy:cO π loc y=some y') {v:AV} (hv:jgx st fr h (bif neg then 2 else 1) x' y'=some (v,h')) :
 ∃ rv,(execOp ρ o).run P w=.ok (.value rv) w/\cV A φ v rv:=by
 obtain⟨k,hk,hv'⟩:∃ k,(k=bif neg then 1 else 0)/\jgx st fr h (k+1) x' y'=some (v,h'):=by cases neg<;>exact⟨_,rfl,hv⟩
 obtain⟨a,ha,h1⟩:=jaa.1 hv'
 obtain⟨b,hb,h2⟩:=jaa.1 h1
 rcases jhm h2 with⟨s,rfl,h3⟩ | ⟨_,h3⟩
 .rcases jhm h3 with⟨u,rfl,h4⟩ | ⟨_,h4⟩
  .obtain ⟨l,rfl,h5⟩:=jjm h4
   obtain⟨r,rfl,h6⟩:=jjm h5
   have hX:ρ x=.string ⟨l.toArray⟩:=hE _ (by rw[ho];simp[Op.operands]) _ _ hx ha
   have hY:ρ y=.string ⟨r.toArray⟩:=hE _ (by rw[ho];simp[Op.operands]) _ _ hy hb
   rcases jjj hop with⟨rfl,rfl⟩ | ⟨rfl,rfl⟩
   .subst hk
    cases h6
    refine⟨.bool (l == r),?_,by rw[←jr7];rfl⟩
    simp[execOp,ho,hX,hY,eqGuard,Go.binOp,Op.stringOp]
   .subst hk
    cases h6
    refine⟨.bool (!(l == r)),?_,by rw[←jr7];show cS A φ (.bool (ji8 (j98 l r))) (.bool (!j98 l r));cases j98 l r<;>rfl⟩
    simp[execOp,ho,hX,hY,eqGuard,Go.binOp,Op.stringOp]
  .cases h4
 .cases h3
def j4o:AO->Prop
 | .call _ _=>True
 | .callv _ _=>True
 | _=>False
theorem j4p (hT:Tys P T) {o:Oper} (hE:jqk A φ π loc st fr o.op.operands.toList ρ) (k:Rel A φ h w) {ao:AO} (hc:cOp T π loc o.op=some (.a ao)) (hn:¬ j4o ao) {cl:FuncId->List AV->Hp->R} (hv:aop cl st fr h ao=some (v,h')) :
 jdb A (jxf h (jbz st fr (.a ao))) φ h w v h' ((execOp ρ o).run P w)/\jdb A (fun n=>h.lo<=n) φ h w v h' ((execOp ρ o).run P w):=by
 have jkv:∀ {V:Nat->Prop},jdb A (fun _=>False) φ h w v h' ((execOp ρ o).run P w)->jdb A V φ h w v h' ((execOp ρ o).run P w):=fun k=>k.mono (fun _ h=>h.elim)
 cases hop:o.op with
 | alloc e =>
  rw[hop] at hc
  obtain⟨ti,hti,e⟩:=f0a.1 hc
  cases e
  have m:=qfx (ρ:=ρ) hT k hop hti hv
  exact⟨jkv m,jkv m⟩
 | box e x =>
  rw[hop] at hc
  obtain⟨y,hy,e⟩:=f0a.1 hc
  cases e
  have m:=qfy (P:=P) hE k hop hy hv
  exact⟨jkv m,jkv m⟩
 | buildSlice t n ps =>
  rw[hop] at hc
  simp only[cOp] at hc
  split at hc
  .rename_i z hz
   cases hb:Nat.ble (n*z.2.size) 16777216 with
   | true =>
    rw[hb] at hc
    obtain⟨l,hl,e⟩:=f0a.1 hc
    cases e
    have m:=j2p hT hE k hop hz hb hl hv
    exact⟨jkv m,jkv m⟩
   | false=>rw[hb] at hc;cases hc
  .cases hc
 | makeSlice t l c =>
  rw[hop] at hc
  simp only[cOp] at hc
  split at hc
  .rename_i z l' c' hz hl hc'
   cases hc
   have m:=jxp hT hE k hop hz hl hc' hv
   exact⟨jkv m,jkv m⟩
  .cases hc
 | load t x =>
  rw[hop] at hc
  simp only[cOp] at hc
  split at hc
  .rename_i ti y hti hy
   cases hb:ti1 ti with
   | true =>
    rw[hb] at hc
    cases hc
    obtain⟨rfl,rv,h1,h2⟩:=qag hT hE k hop hti hb hy hv
    have m:jdb A (fun _=>False) φ h' w v h' ((execOp ρ o).run P w):=⟨_,rv,w,φ,h1,rfl,Step.refl _ k rfl rfl rfl rfl,k,h2⟩
    exact⟨jkv m,jkv m⟩
   | false=>rw[hb] at hc;cases hc
  .cases hc
 | store t x y =>
  rw[hop] at hc
  simp only[cOp] at hc
  split at hc
  .rename_i ti x' y' hti hx hy
   cases hc
   exact j4l hT hE k hop hti hx hy hv
  .cases hc
 | call c =>
  obtain⟨callee,args,ts⟩:=c
  rw[hop] at hc
  simp only[cOp,j37] at hc
  split at hc
  .rename_i as has
   split at hc
   .cases hc;exact absurd trivial hn
   .obtain ⟨y,_,e⟩:=f0a.1 hc
    cases e;exact absurd trivial hn
   .rename_i b
    split at hc
    .split at hc
     .obtain ⟨_,_,e⟩:=f0a.1 hc;cases e
     .cases hc
    .cases hc
    .cases hc
    .rename_i x y
     obtain⟨q,q',ho,hx,hy⟩:=jr5 has
     split at hc
     .rename_i t ht
      obtain⟨z,hz,e⟩:=f0a.1 hc
      cases e
      have m:=qah hT hE k hop ht hz ho hx hy hv
      exact⟨m,m⟩
     .cases hc
    .rename_i x
     obtain⟨q,ho,hx⟩:=jxo has
     split at hc
     .rename_i t ht
      obtain⟨z,hz,e⟩:=f0a.1 hc
      cases e
      cases (show(none:R)=some (v,h') from hv)
     .cases hc
    .rename_i x y
     obtain⟨q,q',ho,hx,hy⟩:=jr5 has
     split at hc
     .rename_i t u hts
      cases hb:Nat.beq t u with
      | true =>
       rw[hb] at hc
       obtain⟨z,hz,e⟩:=f0a.1 hc
       cases e
       obtain rfl:=f0n hb
       have hts':ts=#[t,t]:=by rw[←f2l,hts]
       subst hts'
       obtain⟨m1,m2⟩:=qfz hT hE k hop hz ho hx hy hv
       refine⟨m1.mono (fun n hn=>?_),m2⟩
       revert hn
       cases jbz st fr (.a (.app z.1 z.2.size z.2.bytes x y))<;>first | exact fun h=>h | exact fun h=>h.elim
      | false=>rw[hb] at hc;cases hc
     .cases hc
    .cases hc;cases hv
   .cases hc;cases hv
  .cases hc
 | makeMap t r =>
  rw[hop] at hc
  cases r with
  | none =>
   obtain⟨z,hz,e⟩:=f0a.1 hc
   cases e
   cases (show(none:R)=some (v,h') from hv)
  | some _=>cases hc;cases hv
 | lookup t x y okf =>
  rw[hop] at hc
  simp only[cOp] at hc
  split at hc
  .rename_i z x' y' hz hx hy
   cases hc
   cases (show(none:R)=some (v,h') from hv)
  .cases hc
 | mapUpdate t x y u =>
  rw[hop] at hc
  simp only[cOp] at hc
  split at hc
  .rename_i z x' y' u' hz hx hy hu
   cases hc
   cases (show(none:R)=some (v,h') from hv)
  .cases hc
 | move x=>rw[hop] at hc;obtain⟨_,_,e⟩:=f0a.1 hc;cases e
 | assign x=>rw[hop] at hc;obtain⟨_,_,e⟩:=f0a.1 hc;cases e
 | pick c a b=>rw[hop] at hc;simp only[cOp] at hc;split at hc<;>cases hc
 | build t ps =>
  rw[hop] at hc
  simp only[cOp] at hc
  split at hc
  .split at hc
   .obtain ⟨_,_,e⟩:=f0a.1 hc;cases e
   .split at hc
    .obtain ⟨_,_,e⟩:=f0a.1 hc;cases e
    .cases hc
   .cases hc
  .cases hc
 | binOp op t x y yt =>
  rw[hop] at hc
  simp only[cOp] at hc
  split at hc
  .cases hi:jzv T t with
   | true=>rw[hi] at hc;obtain⟨_,_,e⟩:=f0a.1 hc;cases e
   | false =>
    rw[hi] at hc
    simp only[cond_false] at hc
    cases hsl:(jb5 T t).isSome with
    | true=>rw[hsl] at hc;obtain⟨_,_,e⟩:=f0a.1 hc;cases e
    | false =>
     rename_i x' y' hx' hy'
     rw[hsl] at hc
     simp only[cond_false] at hc
     split at hc
     .cases hc
     .rename_i n hn' _
      cases hpt:jzu T t with
      | false =>
       rw[hpt] at hc
       cases hst:jmc T t with
       | false=>rw[hst] at hc;cases hc
       | true =>
        rw[hst] at hc
        cases hc
        obtain rfl:=jg7 (show jgx st fr h _ x' y'=some (v,h') from hv)
        obtain⟨rv,h1,h2⟩:=j4n hT hE hop hn' hx' hy' hv
        have m:jdb A (fun _=>False) φ h' w v h' ((execOp ρ o).run P w):=⟨_,rv,w,φ,h1,rfl,Step.refl _ k rfl rfl rfl rfl,k,h2⟩
        exact⟨jkv m,jkv m⟩
      | true =>
       rw[hpt] at hc
       cases hc
       cases (show(none:R)=some (v,h') from hv)
     .cases hc
  .cases hc
 | unOp op t x=>rw[hop] at hc;cases op<;>first | (obtain⟨_,_,e⟩:=f0a.1 hc;cases e;done) | (cases hc;cases hv)
 | makeFunc fn fst caps =>
  rw[hop] at hc
  cases fn<;>first | (cases hc;cases hv;done) | skip
  simp only[cOp] at hc
  cases hb:Nat.beq fst.size 0 with
  | true=>rw[hb] at hc;obtain⟨_,_,e⟩:=f0a.1 hc;cases e
  | false=>rw[hb] at hc;cases hc
 | convert s d x =>
  rw[hop] at hc
  simp only[cOp] at hc
  split at hc
  .rename_i ts ti x' hs' hd' hx'
   split at hc
   .cases hc
   .rename_i hk
    cases hb:jgj T s with
    | false=>rw[hb] at hc;cases hc
    | true =>
     rw[hb] at hc
     cases hc
     obtain rfl:=jg7 (show jgx st fr h 0 x' x'=some (v,h') from hv)
     obtain⟨d2,hd2,hk2⟩:=(hT _ _ hd').und
     rw[hk] at hk2
     obtain⟨rv,h1,h2⟩:=qai (y':=x') hT hE k hop hb (hd2.trans (congrArg some hk2)) hx' hv
     have m:jdb A (fun _=>False) φ h' w v h' ((execOp ρ o).run P w):=⟨_,rv,w,φ,h1,rfl,Step.refl _ k rfl rfl rfl rfl,k,h2⟩
     exact⟨jkv m,jkv m⟩
   .cases hc
  .cases hc
 | nilCheck x=>rw[hop] at hc;obtain⟨_,_,e⟩:=f0a.1 hc;cases e
 | slice t x lo hi mx =>
  rw[hop] at hc
  cases mx with
  | some m=>cases hi with
   | none=>cases hc;cases hv
   | some h=>simp only[cOp] at hc;split at hc<;>cases hc
  | none =>
   simp only[cOp] at hc
   split at hc
   .cases hc
   .rename_i x' hs hx hlo hhi
    obtain⟨z,hz,e⟩:=f0a.1 hc
    cases e
    have hl:lo=none:=by
     cases lo with
     | none=>rfl
     | some q=>obtain⟨_,_,e⟩:=f0a.1 (show(cO π loc q).map some=some none from hlo);cases e
    have hh:hi=none:=by
     cases hi with
     | none=>rfl
     | some q=>obtain⟨_,_,e⟩:=f0a.1 (show(cO π loc q).map some=some none from hhi);cases e
    subst hl hh
    have m:=j2q hT hE k hop hz hx hv
    exact⟨jkv m,jkv m⟩
   .cases hc
 | fieldAddr t x f=>rw[hop] at hc;simp only[cOp] at hc;split at hc<;>cases hc
 | field t x f =>
  rw[hop] at hc
  simp only[cOp] at hc
  split at hc
  .rename_i p _ _ _
   cases hb:ti1 p.2 with
   | true=>rw[hb] at hc;cases hc
   | false=>rw[hb] at hc;cases hc
  .cases hc
 | indexAddr t x i=>rw[hop] at hc;simp only[cOp] at hc;split at hc<;>cases hc
 | index t x i =>
  rw[hop] at hc
  simp only[cOp] at hc
  cases hst:jmc T t with
  | true =>
   rw[hst] at hc
   simp only[cond_true] at hc
   split at hc<;>cases hc
  | false =>
  rw[hst] at hc
  simp only[cond_false] at hc
  split at hc
  .rename_i z _ _ _ _ _
   cases hb:ti1 z.2 with
   | true=>rw[hb] at hc;cases hc
   | false=>rw[hb] at hc;cases hc
  .cases hc
 | extract x i=>rw[hop] at hc;obtain⟨_,_,e⟩:=f0a.1 hc;cases e
 | _=>rw[hop] at hc;cases hc;cases hv
end
end Go.Proofs.Ythbghmhjgdonmaa.Ev
