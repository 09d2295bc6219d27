/- Maps whose keys are structs of numbers and bools. -/
import Derived.Test.YtkpadfebkaangaaGreatDoorPopS
import Derived.MapKept
import Derived.Laws.AppendOwn
import Derived.Laws.MakeOwn
import Derived.LaidEqlPtr
import Derived.Laws.BytesArg
import Derived.Lib.AppendStr
import Derived.Laws.Strings
namespace Go.Proofs.YtkpadfebkaangaaGreatDoor.Ev
open Go
set_option linter.all false
variable {v:AV} {neg:Bool} {rows:List (List SV)} {xs zs:List SV} {b k m n nt sz off size bytes:Nat} {x:SV}
section
variable {st fr:List AV} {h h':Hp}
end
section
variable {P:Program} {T:Tr TI} {w w':World} {A:Nat->Int} {φ:Phi} {h h':Hp}
end
def qqw:Next->Value->Prop
 | .value v,u=>v=u
 | .skip,u=>u=undef
 | _,_=>False
def jx9 (h:Hp):Cls->Nat->Prop
 | .fresh,_=>False
 | .load _,_=>False
 | .app b,n=>n=b
 | .quiet,_=>False
 | .other,n=>h.lo<=n
def jck (A:Nat->Int) (W:Nat->Prop) (φ:Phi) (h:Hp) (w:World) (v:AV) (h':Hp) (r:Result Next):Prop :=
 ∃ n rv w' φ',r=.ok n w'/\qqw n rv/\Step W φ φ' h h' w w'/\Rel A φ' h' w'/\cV A φ' v rv
section
variable {P:Program} {T:Tr TI} {w w':World} {A:Nat->Int} {φ:Phi} {h h':Hp} {π:List Nat} {loc:List (Option Nat)} {st fr:List AV} {ρ:Operand->Value} {W V:Nat->Prop}
theorem jck.mono (hw:∀ n,W n->V n) {r:Result Next} (k:jck A W φ h w v h' r):jck A V φ h w v h' r :=
 let ⟨n,rv,w',φ',a,b,c,d,e⟩:=k;⟨n,rv,w',φ',a,b,c.mono hw,d,e⟩
theorem jei (k:Rel A φ h w) {cs:List SV} {ty:TypeId} {g:Nat->AV} (hv:nw h cs ty (fun n h=>ok (g n) h)=some (v,h')) {c:Array Value} (gr:Grown w w' c ty)
 (hl:cs.length<=c.size) (hx:ty=bT->c.size=cs.length) (hc:∀ (i:Nat) sv,cs[i]?=some sv->∃ v,c[i]?=some v/\cS A φ sv v) :
 ∃ φ',Step (fun _=>False) φ φ' h h' w w'/\Rel A φ' h' w'/\φ' h.next=some ⟨w.heap.size,0,c.size⟩/\v=g h.next/\φ.le φ':=by
 obtain⟨h1,h2,h3⟩:=jr8 hv
 cases h3
 obtain⟨s,r⟩:=k.push h1 h2 gr hl hx hc
 exact⟨_,s,r,Phi.add_same _ _ _,rfl,s.le k⟩
theorem jmy {cs:List SV} {c:Array Value} (ha:All2 (cS A φ) cs c.toList):cs.length<=c.size/\∀ (i:Nat) sv,cs[i]?=some sv->∃ v,c[i]?=some v/\cS A φ sv v :=
 ⟨by have:=ha.len;grind,fun i sv hi=>by obtain⟨v,h1,h2⟩:=ha.get i sv hi;grind⟩
theorem jj0 {cs:List SV} {c:Array Value} (ha:All2 (cS A φ) cs c.toList):c.size=cs.length:=by
 have:=ha.len;grind
theorem jj1 (k:Rel A φ h w) (hr:rd h b off n=some xs) :
 ∃ L vs,φ b=some L/\(h.get b).isSome=true/\All2 (cS A φ) xs vs/\vs.length=n/\∀ j v,vs[j]?=some v->w.cell? ⟨L.b,L.o+off+j,none⟩=some v:=by
 obtain⟨cs,ty,hg,rfl,hl⟩:=joc hr
 obtain⟨L,c,h1,h3,h4,h5,h6⟩:=k.blk b _ hg
 have hlen:off+n<=cs.length∨n=0:=by grind
 refine⟨L,(c.toList.drop (L.o+off)).take n,h1,by grind,?_,?_,?_⟩
 .grind[All2.of_get,f0n,f0y,f1y,f1h,f1g,f1u]
 .simp at hl ⊢;omega
 .intro j v hv
  have hin:j<n:=by
   rcases f0n j n with h | h
   .exact h
   .rw [f0y (by simp;omega)] at hv;cases hv
  rw[f1y hin,f1h] at hv
  simp only[World.cell?,h3]
  simpa using hv
theorem ju6 (k:Rel A φ h w) {mc:Nat} {ex:Bool} {x:Value} (hx:cS A φ (.slice b off m mc ex sz) x) (hr:rd h b off n=some xs) (hn:m=0->n=0) :
 ∃ ad cap news,x=.slice (some ad) m cap/\All2 (cS A φ) xs news/\news.length=n/\∀ j u,news[j]?=some u->w.cell? (ad.add j)=some u:=by
 obtain⟨L,ad,cap,q1,rfl,q2,q3,q4,q5⟩:=hx
 grind[jj1,jcc,f1i]
theorem jq5 {R:SV->Value->Prop} {c:Array Value} {o:Nat} {cells:List SV} (h:∀ (j:Nat) (x:SV),cells[j]?=some x->∃ u,c[o+j]?=some u/\R x u) :
 ∃ vs,All2 R cells vs/\vs.length=cells.length/\∀ (j:Nat) (u:Value),vs[j]?=some u->c[o+j]?=some u:=by
 have hl:((c.toList.drop o).take cells.length).length=cells.length:=by
  rcases f2x cells.length with h0 | h0
  .grind
  .obtain ⟨u,h1,_⟩:=h (cells.length - 1) _ (f0b oa)
   have:=(f2h.1 h1).1
   simp
   omega
 grind[f2d,f1h,All2.of_get]
theorem jmz {vs:List Value} (ha:All2 (cS A φ) xs vs):∀ v∈vs,v.oneCell'=true:=by
 intro v hv
 induction ha with
 | nil=>grind
 | cons a _ ih=>rcases f0f.1 hv with rfl | h
                .exact a.one.1
                grind
theorem jon:∀ {rows:List (List SV)} {l:List SV},jx2 size rows=some l->l.length=rows.length*size/\∀ (i j:Nat) (row:List SV) (x:SV),rows[i]?=some row->row[j]?=some x->row.length=size/\l[i*size+j]?=some x
 | [],l,h=>by cases h;simp
 | a::r,l,h=>by
  obtain⟨h1,h2⟩:=jae.1 (show oif (Nat.beq (jb6 a) size) (ob (jx2 size r) (fun r=>some (jf8 a r))) none=some l from h)
  obtain⟨l',h3,h4⟩:=jaa.1 h2
  rw[jcv] at h4
  cases h4
  rw[jiu,jba] at h1
  obtain⟨h5,h6⟩:=jon h3
  refine⟨by grind,fun i j row x hr hx=>?_⟩
  cases i with
  | zero =>
   grind
  | succ i =>
   have hr':r[i]?=some row:=by simpa using hr
   obtain⟨h7,h8⟩:=h6 i j row x hr' hx
   refine⟨h7,?_⟩
   rw[f0x (by rw[h1,f29];omega),←h8]
   congr 1
   rw[h1,f29]
   omega
theorem qdi {l:List SV} (h:jx2 size rows=some l) (hs:0<size) {j:Nat} (hx:l[j]?=some x):∃ row,rows[j / size]?=some row/\row[j % size]?=some x:=by
 obtain⟨h1,h2⟩:=jon h
 have hlt:j<rows.length*size:=by grind
 have hq:j / size<rows.length:=Nat.div_lt_of_lt_mul (by rw[Nat.mul_comm];exact hlt)
 have hall:∀ {rows:List (List SV)} {l:List SV},jx2 size rows=some l->∀ row∈rows,row.length=size:=by
  intro rows
  induction rows with
  | nil=>intro l _ row hr;simp at hr
  | cons a r ih =>
   intro l h row hr
   obtain⟨h1,h2⟩:=jae.1 (show oif (Nat.beq (jb6 a) size) (ob (jx2 size r) (fun r=>some (jf8 a r))) none=some l from h)
   obtain⟨l',h3,h4⟩:=jaa.1 h2
   rw[jiu,jba] at h1
   rcases f0f.1 hr with rfl | h5
   .exact h1
   .exact ih h3 row h5
 grind[f23,Nat.mod_lt,f0b,Nat.mul_comm,Nat.div_add_mod]
theorem jlg (k:Rel A φ h w) {x:Value} (hx:cD A φ.k (.lst rows) x) (hr:jx2 size rows=some xs) :
 ∃ ad cap news,x=.slice (some ad) rows.length cap/\All2 (cS A φ) xs news/\news.length=rows.length*size/\∀ (j:Nat) (u:Value),news[j]?=some u->w.cell? (ad.add j)=some u:=by
 obtain⟨ad,cap,rfl,hc,hcase⟩:=jgv hx
 obtain⟨h1,h2⟩:=jon hr
 by_cases h0:xs=[]
 .subst h0
  exact⟨ad,cap,[],rfl,.nil,oa,fun j u hj=>by grind⟩
 .have hpos:0<xs.length:=by cases xs with | nil=>exact absurd rfl h0 | cons a t=>simp
  have hs:0<size:=by
   rcases f2x size with h | h
   .rw [h1,h,Nat.mul_zero] at hpos;omega
   .exact h
  rcases hcase with rfl | ⟨b,o,sz,cs,e1,rfl,e3,e4⟩
  .rw [h1] at hpos;simp at hpos
  .obtain ⟨ty,hb⟩:=k.con b cs e1
   have key:∀ (j:Nat) (x:SV),xs[j]?=some x->∃ u,cs[o+j]?=some u/\cD A φ.k x u:=fun j x hx=>by
    obtain⟨row,g1,g2⟩:=qdi hr hs hx
    obtain⟨u,g3,g4⟩:=e4 _ _ row x g1 g2
    have g5:sz=size:=by rw[←e3 _ _ g1];exact(h2 _ _ _ _ g1 g2).1
    refine⟨u,?_,g4⟩
    rw[←g3]
    congr 1
    rw[g5,f1u,show j / size*size+j % size=j by rw[Nat.mul_comm];exact Nat.div_add_mod j size]
   obtain⟨vs,a1,a2,a3⟩:=jq5 key
   refine⟨_,cap,vs,rfl,a1.mono (fun _ _ h=>h.toS),by rw[a2,h1],fun j u hj=>?_⟩
   rw[jcc]
   simp only[World.cell?,hb]
   exact a3 j u hj
theorem jq6 (e:TypeId) (v:Value):(newVar e v).run P w=.ok ⟨w.heap.size,0,none⟩ { w with heap:=w.heap.push (.cells v.cells e) }:=by
 rfl
theorem jlh (c:Array Value) (e:TypeId):Grown w { w with heap:=w.heap.push (.cells c e) } c e:=.of rfl rfl rfl rfl
theorem qkv (hT:Tys P T) (k:Rel A φ h w) {o:Oper} {e:TypeId} (ho:o.op=.alloc e) {ti:TI} (hti:jjo T e=some ti) (hv:qqh h e ti.zero=some (v,h')) :
 jck A (fun _=>False) φ h w v h' ((execOp ρ o).run P w):=by
 obtain⟨z,hz,hza,_⟩:=(hT e ti hti).run_zero (w:=w)
 obtain⟨a1,a2⟩:=jmy (hza A φ)
 obtain⟨φ',s,r,e1,rfl,_⟩:=jei k hv (jlh z.cells e) a1 (fun _=>jj0 (hza A φ)) a2
 refine⟨.value (.pointer (some ⟨w.heap.size,0,none⟩)),.pointer (some ⟨w.heap.size,0,none⟩),_,φ',?_,rfl,s,r,⟨_,e1,rfl⟩⟩
 simp only[execOp,ho,Instr.alloc,Sem.run_bind,hz,Result.andThen_ok,jq6,Sem.run_pure]
theorem qkw {o:Oper} (hE:jmo A φ π loc st fr o.op.operands.toList ρ) (k:Rel A φ h w) {e:TypeId} {x:Operand} {y:Od} (ho:o.op=.box e x) (hy:cO π loc x=some y) (hv:qqi st fr h e y=some (v,h')) :
 jck A (fun _=>False) φ h w v h' ((execOp ρ o).run P w):=by
 obtain⟨u,hu,hv1⟩:=jaa.1 hv
 obtain⟨cs,hv1,ha⟩:=(hE _ (by rw[ho];simp[Op.operands]) _ _ hy hu).cells hv1
 obtain⟨a1,a2⟩:=jmy ha
 obtain⟨φ',s,r,e1,rfl,_⟩:=jei k hv1 (jlh (ρ x).cells e) a1 (fun _=>jj0 ha) a2
 refine⟨.value (.pointer (some ⟨w.heap.size,0,none⟩)),.pointer (some ⟨w.heap.size,0,none⟩),_,φ',?_,rfl,s,r,⟨_,e1,rfl⟩⟩
 simp only[execOp,ho,Instr.box,Sem.run_bind,Result.andThen_ok,jq6,Sem.run_pure]
theorem jq7 {z:Array Value} (ha:All2 (cS A φ) zs z.toList) (h0:zs.length≠0) (n m:Nat) (hm:m=n*z.size):All2 (cS A φ) (rep zs n) ((Array.range m).map (z[· % z.size]!)).toList:=by
 subst hm
 have hl:=ha.len
 simp only[f16] at hl
 refine All2.of_get (by grind[jx6]) ?_
 intro i a b hi hb
 have hin:i<n*zs.length:=by
  grind
 rw[j6l zs n i hin] at hi
 obtain⟨v,hv,hc⟩:=ha.get _ _ hi
 grind
theorem j38 (hT:Tys P T) {o:Oper} (hE:jmo A φ π loc st fr o.op.operands.toList ρ) (k:Rel A φ h w) {t:TypeId} {ps:Array (Nat×Operand)} (ho:o.op=.buildSlice t n ps) {z:TypeId×TI} (hz:jbw T t=some z) (hn:Nat.ble (n*z.2.size) 16777216=true)
 {l:List (Nat×Nat×Od)} (hl:jhh π loc (fun i=>some (i*z.2.size,z.2.size)) ps.toList=some l) {v:AV} (hv:jz2 st fr h z.1 z.2.size (rep z.2.zero n) n l=some (v,h')) :
 jck A (fun _=>False) φ h w v h' ((execOp ρ o).run P w):=by
 obtain⟨k1,k2,k3⟩:=jb2 hT hz
 obtain⟨zv,hzv,hza,hzl⟩:=k2.run_zero (w:=w)
 have hzs:zv.cells.size=z.2.size:=by have:=(hza A φ).len;grind
 obtain⟨cs,hcs,hv1⟩:=jaa.1 hv
 have hble:=f0l hn
 have hb:=jq7 (hza A φ) oa n (n*z.2.size) (by grind)
 obtain⟨arr',h1,h2⟩:=jh4 hE ps.toList l _ cs _ (fun p hp=>by rw[ho];simp[Op.operands];exact⟨p.1,by simpa using hp⟩) hl hcs hb
 obtain⟨a1,a2⟩:=jmy h2
 obtain⟨φ',s,r,e1,rfl,_⟩:=jei k hv1 (jlh arr' z.1) a1 (fun _=>jj0 h2) a2
 have hps:(ps.map (fun x=>(x.1,ρ x.2))).toList=ps.toList.map (fun p=>(p.1,ρ p.2)):=se
 have hsz:arr'.size=n*z.2.size:=by
  have l1:=h2.len
  have:∀ (l:List (Nat×Nat×Od)) (cs cs':List SV),fill st fr l cs=some cs'->cs'.length=cs.length:=by
   intro l
   induction l with
   | nil=>intro cs cs' h;cases (show some cs=some cs' from h);rfl
   | cons p l ih =>
    obtain⟨off,m,y⟩:=p
    intro cs cs' h
    obtain⟨v,hv1,h3⟩:=jaa.1 (show ob (ev st fr y) (fun v=>cel v (fun xs=>oif (Nat.beq (jb6 xs) m) (ob (jbo off xs cs) (fill st fr l)) none))=some cs' from h)
    have:∃ xs,oif (Nat.beq (jb6 xs) m) (ob (jbo off xs cs) (fill st fr l)) none=some cs':=by
     cases v with
     | s x=>exact⟨_,h3⟩
     | agg l=>exact⟨_,h3⟩
     | _=>cases h3
    obtain⟨xs,h4⟩:=this
    obtain⟨_,h5⟩:=jae.1 h4
    obtain⟨c1,h6,h7⟩:=jaa.1 h5
    obtain⟨h8,rfl⟩:=(jfv _).1 h6
    rw[ih _ _ h7]
    simp;omega
  have l2:=this _ _ _ hcs
  rw[jx6,hzl] at l2
  simp at l1
  omega
 refine⟨.value (.slice (some ⟨w.heap.size,0,none⟩) n n),.slice (some ⟨w.heap.size,0,none⟩) n n,_,φ',?_,rfl,s,r,⟨_,_,_,e1,rfl,f0h _,f0h _,fun _=>rfl,.inl ⟨se,by simp[hsz]⟩⟩⟩
 have hgt:¬ (n*z.2.size>2 ^ 24):=oa
 by_cases h0:n*z.2.size=0
 .have hn0:n=0:=by rcases Nat.mul_eq_zero.1 h0 with h | h<;>omega
  have hr0:(Array.range (n*z.2.size)).map (zv.cells[· % zv.cells.size]!)=#[]:=by rw[h0];simp
  rw[hr0] at h1
  subst hn0
  have hgt':¬ (0>2 ^ 24):=by decide
  have hr1:(Array.range 0).map (fun x=>(#[]:Array Value)[x % (#[]:Array Value).size]!)=#[]:=se
  simp only[execOp,ho,Instr.buildSlice,Sem.run_bind,run_underlying k1,Result.andThen_ok,k2.run_size,f2a,hgt',if_false,if_true,Sem.run_pure,hps,hr1,h1]
  simp[newRow]
 .simp only[execOp,ho,Instr.buildSlice,Sem.run_bind,run_underlying k1,Result.andThen_ok,k2.run_size,hgt,if_false,h0,Sem.run_pure,hps,hzv]
  rw[h1]
  simp[newRow]
theorem jya (hT:Tys P T) {o:Oper} (hE:jmo A φ π loc st fr o.op.operands.toList ρ) (k:Rel A φ h w) {t:TypeId} {l c:Operand} (ho:o.op=.makeSlice t l c) {z:TypeId×TI} (hz:jbw T t=some z)
 {l' c':Od} (hl:cO π loc l=some l') (hc:cO π loc c=some c') {v:AV} (hv:jgc st fr h z.1 z.2.size z.2.bytes z.2.zero l' c'=some (v,h')) :
 jck A (fun _=>False) φ h w v h' ((execOp ρ o).run P w):=by
 obtain⟨k1,k2,k3⟩:=jb2 hT hz
 obtain⟨i,zv,d,q1,q2,q3,q4,hza,_,_,_,hzl⟩:=k2.ex
 have hzs:zv.cells.size=z.2.size:=by have:=(hza A φ).len;simp at this;omega
 obtain⟨u,hu,hv1⟩:=jaa.1 hv
 obtain⟨u',hu',hv2⟩:=jaa.1 hv1
 obtain⟨m,rfl,hv3⟩:=je8 hv2
 obtain⟨n,rfl,hv4⟩:=je8 hv3
 obtain⟨h1,hv5⟩:=jae.1 hv4
 obtain⟨h2,hv6⟩:=jae.1 hv5
 obtain⟨h3,hv7⟩:=jae.1 hv6
 have hmn:=f0l h1
 have hb:z.2.bytes*n<=1000000000:=f0l h2
 have hn:=f0l h3
 have e1:ρ l=.int .i64 (m:Int):=hE _ (by rw[ho];simp[Op.operands]) _ _ hl hu
 have e2:ρ c=.int .i64 (n:Int):=hE _ (by rw[ho];simp[Op.operands]) _ _ hc hu'
 have hbytes:(i.bytes:Int)*(n:Int)<=281474976710656:=by
  rw[q4,←Int.natCast_mul];omega
 have hr:=run_make (P:=P) w t z.1 i zv k1 q1 q2 .i64 .i64 m n oa oa hbytes oa
 simp only[f1k] at hr
 have hm:=jq7 (hza A φ) oa n (n*i.size) (by rw[hzs,q3])
 obtain⟨a1,a2⟩:=jmy hm
 obtain⟨φ',s,r,e3,rfl,_⟩:=jei k hv7 (Grown.alloc w (madeCells zv.cells (n*i.size)) z.1) a1 (fun _=>jj0 hm) a2
 refine⟨.value (.slice (some ⟨w.heap.size,0,none⟩) m n),.slice (some ⟨w.heap.size,0,none⟩) m n,_,φ',?_,rfl,s,r,⟨_,_,_,e3,rfl,f0h _,hmn,fun _=>rfl,.inl ⟨se,?_⟩⟩⟩
 .simp only[execOp,ho,e1,e2,Sem.run_bind,hr,Result.andThen_ok,Sem.run_pure]
 .simp [size_madeCells,q3]
theorem qdj (hT:Tys P T) {o:Oper} (hE:jmo A φ π loc st fr o.op.operands.toList ρ) (k:Rel A φ h w) {t:TypeId} {x:Operand} (ho:o.op=.load t x) {ti:TI} (hti:jjo T t=some ti) (h1:ti1 ti=true)
 {y:Od} (hy:cO π loc x=some y) {v:AV} (hv:jjl st fr h ti.size ti.agg y=some (v,h')) :
 h'=h/\∃ rv,(execOp ρ o).run P w=.ok (.value rv) w/\cV A φ v rv:=by
 have kt:=hT t ti hti
 obtain⟨u,hu,hv1⟩:=jaa.1 hv
 have src:∃ b o cs v' vs,ρ x=.pointer (some ⟨b,o,none⟩)/\jgs ti.agg cs=some v'/\ok v' h=some (v,h')/\All2 (cS A φ) cs vs/\vs.length=ti.size/\∀ (j:Nat) (u:Value),vs[j]?=some u->w.cell? ⟨b,o+j,none⟩=some u:=by
  rcases jbz hv1 with⟨b,off,rfl,hv2⟩ | ⟨cs0,rfl,hv2⟩
  .obtain ⟨cs,hcs,hv3⟩:=jaa.1 hv2
   obtain⟨v',hv',hv4⟩:=jaa.1 hv3
   obtain⟨L,hL,hρ⟩:=(show jqj φ b off (ρ x) from hE _ (by rw[ho];simp[Op.operands]) _ _ hy hu)
   obtain⟨L',vs,e1,_,e2,e3,e4⟩:=jj1 k hcs
   rw[hL] at e1
   cases e1
   exact⟨_,_,cs,v',vs,hρ,hv',hv4,e2,e3,e4⟩
  .obtain ⟨cs,hcs,hv3⟩:=jaa.1 hv2
   obtain⟨v',hv',hv4⟩:=jaa.1 hv3
   obtain⟨b,o,c,q1,hρ,q2⟩:=(show cS A φ (.cp cs0) (ρ x) from hE _ (by rw[ho];simp[Op.operands]) _ _ hy hu)
   obtain⟨hl,rfl⟩:=(ja8 _).1 hcs
   obtain⟨vs,a1,a2,a3⟩:=jq5 (R:=cD A φ.k) (cells:=cs0.take ti.size) (c:=c) (o:=o) (fun j x hx=>q2 j x (by
    rw[f2d] at hx
    split at hx
    .exact hx
    .cases hx))
   obtain⟨ty,hc⟩:=k.con b c q1
   refine⟨b,o,_,v',vs,hρ,hv',hv4,a1.mono (fun _ _ h=>h.toS),by rw[a2,f1r];omega,fun j u hj=>?_⟩
   simp only[World.cell?,hc]
   exact a3 j u hj
 obtain⟨b,o',cs,v',vs,hρ,hv',hv4,e2,e3,e4⟩:=src
 cases hv4
 refine⟨rfl,?_⟩
 rcases jjs hv' with⟨e,rfl⟩ | ⟨e,s,rfl,rfl⟩
 .refine ⟨.agg vs.toArray,?_,vs,rfl,e2⟩
  have hl:=run_loadCells_list (P:=P) w ⟨b,o',none⟩ vs (fun j u hj=>by rw[jcc];exact e4 j u hj)
  rw[e3] at hl
  simp only[execOp,ho,Instr.loadAt,Instr.sureAddr,hρ,Sem.run_bind,Sem.run_pure,Result.andThen_ok,loadVar,kt.run_agg,e,if_true,kt.run_size,hl]
 .cases e2 with
  | @cons _ rv _ rest hc _ =>
   refine⟨rv,?_,hc⟩
   have h4:=e4 0 rv rfl
   rw[f1z] at h4
   simp only[execOp,ho,Instr.loadAt,Instr.sureAddr,hρ,Sem.run_bind,Sem.run_pure,Result.andThen_ok,loadVar,kt.run_agg,e,f1c,if_false,run_load,h4]
theorem j6w (hT:Tys P T) {o:Oper} (hE:jmo A φ π loc st fr o.op.operands.toList ρ) (k:Rel A φ h w) {t:TypeId} {x y:Operand} (ho:o.op=.store t x y) {ti:TI} (hti:jjo T t=some ti)
 {x' y':Od} (hx:cO π loc x=some x') (hy:cO π loc y=some y') {v:AV} (hv:jx1 st fr h ti.size x' y'=some (v,h')) :
 jck A (jx9 h (jca st fr (.a (.store ti.size x' y')))) φ h w v h' ((execOp ρ o).run P w)/\jck A (fun n=>h.lo<=n) φ h w v h' ((execOp ρ o).run P w):=by
 have kt:=hT t ti hti
 obtain⟨p,hp,hv1⟩:=jaa.1 hv
 obtain⟨u,hu,hv2⟩:=jaa.1 hv1
 obtain⟨b,off,rfl,hv3⟩:=jjv hv2
 obtain⟨cs,hv3,ha⟩:=(hE _ (by rw[ho];simp[Op.operands]) _ _ hy hu).cells hv3
 obtain⟨hl,hv4⟩:=jae.1 hv3
 obtain⟨h1,hw,hv5⟩:=jaa.1 hv4
 cases hv5
 rw[jiu,jba] at hl
 obtain⟨L,hL,hρ⟩:=(show jqj φ b off (ρ x) from hE _ (by rw[ho];simp[Op.operands]) _ _ hx hp)
 obtain⟨hlo,_⟩:=jle hw
 obtain⟨L',c,ty,e1,_,e2,e3,e4⟩:=k.put hw ha
 rw[hL] at e1
 cases e1
 have hst:=run_storeCells_at P L.b (L.o+off) ty (ρ y).cells.toList 0 c w e2 (by simpa using e3) (jmz ha)
 obtain⟨s,r⟩:=e4 _ (Changed.row e2 _)
 have hcls:jca st fr (.a (.store ti.size x' y'))=.app b:=by
  show jr4 (ob (ev st fr x') (fun v=>jux v (fun b _=>some b))) .app=_
  rw[hp];rfl
 have hm:jck A (fun n=>n=b) φ h w .undef h' ((execOp ρ o).run P w):=by
  refine⟨.skip,undef,_,φ,?_,rfl,s,r,rfl⟩
  have hsz:(ρ y).cells.size=ti.size:=by have:=ha.len;simp at this;omega
  simp only[execOp,ho,Instr.storeAt,Instr.sureAddr,hρ,Sem.run_bind,Sem.run_pure,Result.andThen_ok,storeVar,kt.run_size,hsz,ne_eq,not_true_eq_false,if_false,hst,f1z]
 rw[hcls]
 exact⟨hm,hm.mono (fun n e=>by subst e;exact hlo)⟩
theorem j39 (t ty e:TypeId) (i:TypeInfo) (ht:P.underlying t=some (.slice e)) (hi:P.info? e=some i)
 (b off n cap:Nat) (cur:Array Value) (ety:TypeId) (hg:w.heap[b]?=some (.cells cur ety (0,0)))
 (a:Addr) (m c:Nat) (news:List Value) (hl:news.length=m*i.size) (hnews:∀ j u,news[j]?=some u->w.cell? (a.add j)=some u) (h1:∀ u∈news,u.oneCell'=true)
 (hroom:n+m<=cap) (hfit:off+n*i.size+news.length<=cur.size) :
 (Builtin.append_ #[t,t] ty #[.slice (some ⟨b,off,none⟩) n cap,.slice (some a) m c]).run P w =
  .ok (.slice (some ⟨b,off,none⟩) (n+m) cap) (w.setRow b (cur.toList.take (off+n*i.size)++news++cur.toList.drop (off+n*i.size+news.length)).toArray):=by
 have hf:=run_firstCells_some (P:=P) w i.size m a m c news hl hnews
 have hst:=run_storeCells_at P b (off+n*i.size) ety news 0 cur w hg oa h1
 simp[Builtin.append_,run_underlying ht,sizeOf,typeInfo,hi,Builtin.lenOf,hroom,hf,jcc,hst]
theorem jmc (t ty e:TypeId) (i:TypeInfo) (ht:P.underlying t=some (.slice e)) (hi:P.info? e=some i) (A0:Option Addr) (n cap:Nat) (hn:n<=cap) (B:Option Addr) (c:Nat) :
 (Builtin.append_ #[t,t] ty #[.slice A0 n cap,.slice B 0 c]).run P w=.ok (.slice A0 n cap) w:=by
 have hf:(Builtin.firstCells i.size 0 (.slice B 0 c)).run P w=.ok #[] w:=by
  cases B with
  | none=>rfl
  | some b=>simp[Builtin.firstCells,loadCells,loadCellsFrom]
 cases A0<;>simp[Builtin.append_,run_underlying ht,sizeOf,typeInfo,hi,Builtin.lenOf,hn,hf,storeCells]
theorem je9 {o:Oper} {args:Array Operand} {t:TypeId} (ho:o.op=.call ⟨.builtin .append,args,#[t,t]⟩) {x y:Operand} (hargs:args.toList=[x,y]) {rv:Value}
 (hr:(Builtin.append_ #[t,t] o.type #[ρ x,ρ y]).run P w=.ok rv w'):(execOp ρ o).run P w=.ok (.value rv) w':=by
 have e:args.map ρ=#[ρ x,ρ y]:=by grind[f13,f2e]
 simp only[execOp,ho,resolve,invoke,builtin,Sem.run_bind,Sem.run_pure,Result.andThen_ok,e,hr]
theorem jmd {c:Array Value} {ty:TypeId} (hb:w.heap[b]?=some (.cells c ty (0,0))) (hn:n=0) :
 Changed w w b (c.toList.take k++[]++c.toList.drop (k+n)).toArray ty:=by
 refine⟨rfl,rfl,rfl,rfl,fun _ _=>rfl,?_⟩
 simp_all
noncomputable def slB (u:AV):Option Nat:=jit u none (fun b _ _ _ _ _=>some b)
structure AppRuns (w:World) (E:TypeId) (i:TypeInfo) (zv:Value) (m:Nat) (news:List Value) (x:Value) (r:Result Next):Prop where
 zero:m=0->∀ A0 n cap,x=.slice A0 n cap->n<=cap->r=.ok (.value (.slice A0 n cap)) w
 nil:0<m->m*i.bytes<=281474976710656->(m:Int)<=9223372036854775807->x=.slice none 0 0->r=.ok (.value (.slice (some ⟨w.heap.size,0,none⟩) m (grownCap w m 0 E))) (w.drew.alloc (.cells (news.toArray++Builtin.zeroCells zv.cells (grownCap w m 0 E - m)) E))
 grow:∀ (b:Addr) sLen sCap (olds:List Value),x=.slice (some b) sLen sCap->olds.length=sLen*i.size->(∀ (j:Nat) v,olds[j]?=some v->w.cell? (b.add j)=some v)->sCap<sLen+m->((sLen+m:Nat):Int)<=9223372036854775807 ->
  Builtin.nextslicecap (sLen+m) sCap*i.bytes<=281474976710656->r=.ok (.value (.slice (some ⟨w.heap.size,0,none⟩) (sLen+m) (grownCap w (sLen+m) sCap E))) (w.drew.alloc (.cells (olds.toArray++news.toArray++Builtin.zeroCells zv.cells (grownCap w (sLen+m) sCap E - (sLen+m))) E))
 inn:∀ b off n cap cur (ety:TypeId),x=.slice (some ⟨b,off,none⟩) n cap->w.heap[b]?=some (.cells cur ety (0,0))->n+m<=cap->off+n*i.size+news.length<=cur.size ->
  r=.ok (.value (.slice (some ⟨b,off,none⟩) (n+m) cap)) (w.setRow b (cur.toList.take (off+n*i.size)++news++cur.toList.drop (off+n*i.size+news.length)).toArray)
theorem j0d (k:Rel A φ h w) {E:TypeId} (hEb:E≠bT) {i:TypeInfo} {zv:Value} (q3:i.size=size) (q4:i.bytes=bytes) (hza:All2 (cS A φ) zs zv.cells.toList) (hzl:zs.length=size)
 {u:AV} {xv:Value} (hX:cV A φ u xv) {m:Nat} {new:List SV} {news:List Value} (hnv:All2 (cS A φ) new news) (hnl:news.length=m*size) {rn:Result Next} (Rn:AppRuns w E i zv m news xv rn) {v:AV} (hv5:jlb h E size bytes m u new=some (v,h')) :
 jck A (fun n=>slB u=some n) φ h w v h' rn/\jck A (fun n=>h.lo<=n) φ h w v h' rn:=by
 have stay:∀ (rv:Value),rn=.ok (.value rv) w->cV A φ v rv->h'=h->jck A (fun n=>slB u=some n) φ h w v h' rn/\jck A (fun n=>h.lo<=n) φ h w v h' rn:=by
  intro rv hr hcv e
  subst e
  exact⟨⟨_,rv,w,φ,hr,rfl,Step.refl _ k rfl rfl rfl rfl,k,hcv⟩,⟨_,rv,w,φ,hr,rfl,Step.refl _ k rfl rfl rfl rfl,k,hcv⟩⟩
 have hnl':news.length=m*i.size:=by grind
 have hone:=jmz hnv
 have hnlen:=hnv.len
 rcases jbb hv5 with⟨rfl,hv6⟩ | ⟨b,off,n,mc,ex,sz,rfl,hv6⟩ | ⟨rows,rfl,hv6⟩ | ⟨rfl,hv6⟩
 rotate_left 2
 .grind
 ·
  obtain⟨adx,eX⟩:=(show cS A φ .emp xv from hX)
  cases m with
  | zero =>
   cases hv6
   exact stay (.slice (some adx) 0 0) (Rn.zero rfl _ _ _ eX (f0h _)) ⟨adx,rfl⟩ rfl
  | succ m =>
   obtain⟨hb,hv7⟩:=jae.1 (show oif (Nat.ble (Nat.mul (m+1) bytes) 140737488355328) (oif (Nat.ble (m+1) 140737488355328) (nw h new E (fun k h=>ok (.s (.slice k 0 (m+1) (m+1) false size)) h)) none) none=some (v,h') from hv6)
   obtain⟨hm,hv8⟩:=jae.1 hv7
   have hb':(m+1)*bytes<=140737488355328:=f0l hb
   have hm':=f0l hm
   have hr:=Rn.grow adx 0 0 [] eX se se oa oa (growslice_fits oa (by rw[q4,f1b];omega))
   rw[f1b] at hr
   have hcap:=grownCap_ge w (m+1) 0 E
   have hzs:zv.cells.size=size:=by have:=hza.len;simp at this;omega
   obtain⟨φ',s,r,e1,rfl,_⟩:=jei k hv8 (Grown.drew w ([].toArray++news.toArray++Builtin.zeroCells zv.cells (grownCap w (m+1) 0 E - (m+1))) E) (by simp;omega) (fun e=>absurd e hEb)
    (fun i sv hi=>by
     obtain⟨u,h1,h2⟩:=hnv.get i sv hi
     refine⟨u,?_,h2⟩
     have hlt:=(f0q.1 h1).1
     rw[f14 (by simpa using hlt)]
     simpa using h1)
   have fin:rn=.ok (.value (.slice (some ⟨w.heap.size,0,none⟩) (m+1) (grownCap w (m+1) 0 E))) _:=hr
   have hcs:cV A φ' (.s (.slice h.next 0 (m+1) (m+1) false size)) (.slice (some ⟨w.heap.size,0,none⟩) (m+1) (grownCap w (m+1) 0 E)):=by
    refine⟨_,_,_,e1,rfl,hcap,f0h _,(fun h=>nomatch h),.inl ⟨se,?_⟩⟩
    simp only[Array.size_append,List.size_toArray,f00,size_zeroCells,hnl',hzs,q3,f1b]
    rw[←f2y,Nat.add_sub_cancel' hcap]
    omega
   exact⟨⟨_,_,_,φ',fin,rfl,s.mono (fun _ h=>h.elim),r,hcs⟩,⟨_,_,_,φ',fin,rfl,s.mono (fun _ h=>h.elim),r,hcs⟩⟩
 ·
  have eX:xv=.slice none 0 0:=hX
  cases m with
  | zero =>
   cases hv6
   exact stay (.slice none 0 0) (Rn.zero rfl _ _ _ eX (f0h _)) rfl rfl
  | succ m =>
   obtain⟨hb,hv7⟩:=jae.1 (show oif (Nat.ble (Nat.mul (m+1) bytes) 140737488355328) (oif (Nat.ble (m+1) 140737488355328) (nw h new E (fun k h=>ok (.s (.slice k 0 (m+1) (m+1) false size)) h)) none) none=some (v,h') from hv6)
   obtain⟨hm,hv8⟩:=jae.1 hv7
   have hb':(m+1)*bytes<=140737488355328:=f0l hb
   have hm':=f0l hm
   have hr:=Rn.nil oa (by rw[q4];omega) oa eX
   have hcap:=grownCap_ge w (m+1) 0 E
   have hzs:zv.cells.size=size:=by have:=hza.len;simp at this;omega
   obtain⟨φ',s,r,e1,rfl,_⟩:=jei k hv8 (Grown.drew w (news.toArray++Builtin.zeroCells zv.cells (grownCap w (m+1) 0 E - (m+1))) E) (by simp;omega) (fun e=>absurd e hEb)
    (fun i sv hi=>by
     obtain⟨u,h1,h2⟩:=hnv.get i sv hi
     refine⟨u,?_,h2⟩
     have hlt:=(f0q.1 h1).1
     rw[f14 (by simpa using hlt)]
     simpa using h1)
   have fin:rn=.ok (.value (.slice (some ⟨w.heap.size,0,none⟩) (m+1) (grownCap w (m+1) 0 E))) _:=hr
   have hcs:cV A φ' (.s (.slice h.next 0 (m+1) (m+1) false size)) (.slice (some ⟨w.heap.size,0,none⟩) (m+1) (grownCap w (m+1) 0 E)):=by
    refine⟨_,_,_,e1,rfl,hcap,f0h _,(fun h=>nomatch h),.inl ⟨se,?_⟩⟩
    simp only[Array.size_append,List.size_toArray,size_zeroCells,hnl',hzs,q3]
    rw[←f2y,Nat.add_sub_cancel' hcap]
    omega
   exact⟨⟨_,_,_,φ',fin,rfl,s.mono (fun _ h=>h.elim),r,hcs⟩,⟨_,_,_,φ',fin,rfl,s.mono (fun _ h=>h.elim),r,hcs⟩⟩
 .obtain ⟨L,ad,cap,p1,p2,p3,p4,p5,p6⟩:=(show cS A φ (.slice b off n mc ex sz) xv from hX)
  have hcls:slB (.s (.slice b off n mc ex sz))=some b:=rfl
  rw[hcls]
  obtain⟨hsz,hv9⟩:=jae.1 hv6
  obtain rfl:=(f0k hsz).symm
  rw[jat] at hv9
  split at hv9
  ·
   rename_i hroom
   have hroom':n+m<=mc:=f0l hroom
   obtain⟨h1,hw,hv10⟩:=jaa.1 hv9
   cases hv10
   obtain⟨hlo,_⟩:=jle hw
   obtain⟨L',c,ty,e1,_,e2,e3,e4⟩:=k.put hw hnv
   rw[p1] at e1
   cases e1
   have e3':L.o+(off+n*size)+news.length<=c.size:=e3
   have fin:∃ w',rn=.ok (.value (.slice (some ad) (n+m) cap)) w'/\Changed w w' L.b (c.toList.take (L.o+(off+n*size))++news++c.toList.drop (L.o+(off+n*size)+news.length)).toArray ty:=by
    rcases p6 with⟨rfl,p7⟩ | p6
    .refine ⟨_,Rn.inn L.b (L.o+off) n cap c ty p2 e2 oa (by rw[q3];omega),?_⟩
     rw[q3,f1u]
     exact Changed.row e2 _
    .have hm0:m=0:=oa
     have hn0:n=0:=oa
     subst hm0 hn0
     have hnil:news=[]:=f1i (by rw[hnl',f2a])
     refine⟨w,Rn.zero rfl _ _ _ p2 oa,?_⟩
     rw[hnil]
     exact jmd e2 rfl
   obtain⟨w',fin,hch⟩:=fin
   obtain⟨s,r⟩:=e4 w' hch
   have hcs:cV A φ (.s (.slice b off (n+m) mc ex size)) (.slice (some ad) (n+m) cap):=⟨L,ad,cap,p1,rfl,p3,hroom',p5,p6⟩
   exact⟨⟨_,_,w',φ,fin,rfl,s.mono (fun n e=>congrArg some e.symm),r,hcs⟩,⟨_,_,w',φ,fin,rfl,s.mono (fun n e=>by subst e;exact hlo),r,hcs⟩⟩
  .rename_i hroom
   have hroom':mc<n+m:=by
    rcases f0n mc (n+m) with h | h
    .exact h
    .exact absurd ((jr7 _ _).symm▸h:Nat.ble (Nat.add n m) mc=true) hroom
   obtain⟨hb,hv11⟩:=jae.1 (show oif (Nat.ble (Nat.mul (Nat.add n m) bytes) 140737488355328) (oif (Nat.ble (Nat.add n m) 140737488355328) (jla h E size b off n m ex new) none) none=some (v,h') from hv9)
   obtain⟨hm,hv12⟩:=jae.1 hv11
   have hb':(n+m)*bytes<=140737488355328:=f0l hb
   have hm':n+m<=140737488355328:=f0l hm
   obtain⟨ab,hab,hv13⟩:=jaa.1 hv12
   cases ab with
   | map va es=>cases hv13
   | arr cs ty =>
   obtain⟨old,hold,hv14⟩:=jaa.1 (show ob (jbp (Nat.mul n size) (jb9 off cs)) (fun old=>Bool.rec
    (oif (Nat.ble h.lo b) (oif (Nat.beq ty E) (nw (h.put b none) (jf8 old new) E (fun k h=>ok (.s (.slice k 0 (Nat.add n m) (Nat.add n m) false size)) h)) none) none)
    (nw h (jf8 old new) E (fun k h=>ok (.s (.slice k 0 (Nat.add n m) (Nat.add n m) false size)) h)) ex)=some (v,h') from hv13)
   have hrd:rd h b off (Nat.mul n size)=some old:=by
    show ob (h.get b) _=_
    rw[hab];exact hold
   obtain⟨L',olds,e1,hgs,hov,hol,hocells⟩:=jj1 k hrd
   rw[p1] at e1
   cases e1
   have hol':olds.length=n*i.size:=by rw[hol,q3];rfl
   have holen:=hov.len
   have hocells':∀ j u,olds[j]?=some u->w.cell? (ad.add j)=some u:=by
    intro j u hj
    rcases p6 with⟨rfl,_⟩ | p6
    .rw [jcc];exact hocells j u hj
    .have:olds=[]:=f1i (by rw[hol'];have:n=0:=oa
                           rw[this,f2a])
     rw[this] at hj;cases hj
   have hzs:zv.cells.size=size:=by have:=hza.len;simp at this;omega
   rw[jcv] at hv14
   have hon:=hov.append hnv
   have hsm:(n+m)*i.bytes<=140737488355328:=by rw[q4];omega
   have grow:cap<n+m->∃ w1,Grown w w1 (olds.toArray++news.toArray++Builtin.zeroCells zv.cells (grownCap w (n+m) cap E - (n+m))) E /\
    rn=.ok (.value (.slice (some ⟨w.heap.size,0,none⟩) (n+m) (grownCap w (n+m) cap E))) w1:=by
    intro hg
    exact⟨_,Grown.drew w _ E,Rn.grow ad n cap olds p2 hol' hocells' hg oa (growslice_fits hg hsm)⟩
   have hlen:(old++new).length=(n+m)*size:=by
    rw[f0d,holen,hnlen,hol,hnl];exact(f2y _ _ _).symm
   have hget:∀ (c:Array Value) (j:Nat) sv,(old++new)[j]?=some sv->∃ u,(olds.toArray++news.toArray++c)[j]?=some u/\cS A φ sv u:=by
    intro c j sv hj
    obtain⟨u,h1,h2⟩:=hon.get j sv hj
    have hlt:=(f0q.1 h1).1
    refine⟨u,?_,h2⟩
    rw[f14 (by simpa using hlt)]
    rw[←f2k] at h1
    simpa using h1
   have hcap:=grownCap_ge w (n+m) cap E
   have hsize:(olds.toArray++news.toArray++Builtin.zeroCells zv.cells (grownCap w (n+m) cap E - (n+m))).size=grownCap w (n+m) cap E*size:=by
    simp only[Array.size_append,List.size_toArray,size_zeroCells,hol',hnl',hzs,q3]
    rw[←f2y,←f2y,Nat.add_sub_cancel' hcap]
   have hle:(n+m)*size<=grownCap w (n+m) cap E*size:=Nat.mul_le_mul_right _ hcap
   cases ex with
   | true =>
    have hcm:=p5 rfl
    obtain⟨w1,g,fin⟩:=grow oa
    obtain⟨φ',s,r,e1,rfl,_⟩:=jei k (show nw h (old++new) E (fun k h=>ok (.s (.slice k 0 (Nat.add n m) (Nat.add n m) false size)) h)=some (v,h') from hv14) g (by rw[hlen,hsize];exact hle) (fun e=>absurd e hEb) (hget _)
    have hcs:cV A φ' (.s (.slice h.next 0 (n+m) (n+m) false size)) (.slice (some ⟨w.heap.size,0,none⟩) (n+m) (grownCap w (n+m) cap E)) :=
     ⟨_,_,_,e1,rfl,hcap,f0h _,(fun h=>nomatch h),.inl ⟨se,by rw[hsize];simp⟩⟩
    exact⟨⟨_,_,_,φ',fin,rfl,s.mono (fun _ h=>h.elim),r,hcs⟩,⟨_,_,_,φ',fin,rfl,s.mono (fun _ h=>h.elim),r,hcs⟩⟩
   | false =>
    obtain⟨hlo,hv15⟩:=jae.1 (show oif (Nat.ble h.lo b) (oif (Nat.beq ty E) (nw (h.put b none) (old++new) E (fun k h=>ok (.s (.slice k 0 (Nat.add n m) (Nat.add n m) false size)) h)) none) none=some (v,h') from hv14)
    obtain⟨hty,hv16⟩:=jae.1 hv15
    have hlo':h.lo<=b:=f0l hlo
    obtain rfl:E=ty:=(f0k hty).symm
    by_cases hg:cap<n+m
    .obtain ⟨w1,g,fin⟩:=grow hg
     obtain⟨s1,r1⟩:=k.kill hgs
     obtain⟨φ',s,r,e1,rfl,_⟩:=jei r1 hv16 g (by rw[hlen,hsize];exact hle) (fun e=>absurd e hEb) (hget _)
     rw[Hp.next_put] at e1
     have s2:=s1.trans (s.mono (V:=fun n=>n=b) (fun _ h=>h.elim))
     have hcs:cV A φ' (.s (.slice (h.put b none).next 0 (n+m) (n+m) false size)) (.slice (some ⟨w.heap.size,0,none⟩) (n+m) (grownCap w (n+m) cap E)):=by
      rw[Hp.next_put]
      exact⟨_,_,_,e1,rfl,hcap,f0h _,(fun h=>nomatch h),.inl ⟨se,by rw[hsize];simp⟩⟩
     exact⟨⟨_,_,_,φ',fin,rfl,s2.mono (fun n e=>congrArg some e.symm),r,hcs⟩,⟨_,_,_,φ',fin,rfl,s2.mono (fun n e=>by subst e;exact hlo'),r,hcs⟩⟩
    ·
     have hcap0:0<cap:=oa
     rcases p6 with⟨rfl,p7⟩ | p6
     rotate_left
     .omega
     obtain⟨L',c,e1,hc1,hc2,hc3,hc4⟩:=k.blk b _ hab
     rw[p1] at e1
     cases e1
     obtain⟨hn1,hn2,hv17⟩:=jr8 hv16
     cases hv17
     rw[Hp.next_put] at hn1 hn2
     rw[Hp.hid_put] at hn2
     have hmul:(n+m)*size<=cap*size:=Nat.mul_le_mul_right _ oa
     rw[f2y] at hmul
     have hnl2:news.length=m*size:=hnl
     have hfin:=Rn.inn L.b (L.o+off) n cap c _ p2 hc1 oa (by rw[q3];omega)
     rw[q3] at hfin
     obtain⟨s,r⟩:=k.app hab p1 hc2 hn1 hn2 (Changed.row hc1 (c.toList.take (L.o+off+n*size)++news++c.toList.drop (L.o+off+n*size+news.length)).toArray) (by simp;omega) (L.o+off) (cs:=old++new) (by rw[hlen,f2y];omega) hEb
      (fun j sv hj=>by
       rw[f2n] at hj
       simp only[f2k,f0g]
       split at hj
       .rename_i hlt
        obtain⟨u,h1,h2⟩:=hov.get j sv hj
        refine⟨u,?_,h2⟩
        have h3:=hocells j u h1
        simp only[World.cell?,hc1] at h3
        have hlt':j<n*size:=by rw[holen,hol] at hlt;exact hlt
        rw[f07 (by simp;omega),f1y oa]
        simpa using h3
       .rename_i hge
        obtain⟨u,h1,h2⟩:=hnv.get _ sv hj
        refine⟨u,?_,h2⟩
        have hlt:=(f0q.1 h1).1
        have hge':n*size<=j:=by rw[holen,hol] at hge;exact Nat.le_of_not_lt hge
        have hol2:old.length=n*size:=by rw[holen,hol];rfl
        rw[f0x (by simp;omega),f07 (by simp;omega),←h1]
        congr 1
        simp
        omega)
     have hcs:cV A (φ.add h.next ⟨L.b,L.o+off,L.lim⟩) (.s (.slice (h.put b none).next 0 (n+m) (n+m) false size)) (.slice (some ⟨L.b,L.o+off,none⟩) (n+m) cap):=by
      rw[Hp.next_put]
      exact⟨_,_,cap,Phi.add_same _ _ _,rfl,oa,f0h _,(fun h=>nomatch h),.inl ⟨se,by simp;omega⟩⟩
     exact⟨⟨_,_,_,_,hfin,rfl,s.mono (fun n e=>congrArg some e.symm),r,hcs⟩,⟨_,_,_,_,hfin,rfl,s.mono (fun n e=>by subst e;exact hlo'),r,hcs⟩⟩
theorem qkx (hT:Tys P T) {o:Oper} (hE:jmo A φ π loc st fr o.op.operands.toList ρ) (k:Rel A φ h w) {args:Array Operand} {t:TypeId} (ho:o.op=.call ⟨.builtin .append,args,#[t,t]⟩) {z:TypeId×TI} (hz:jbw T t=some z) (hEb:z.1≠bT)
 {x y:Operand} (hargs:args.toList=[x,y]) {x' y':Od} (hx:cO π loc x=some x') (hy:cO π loc y=some y') {v:AV} (hv:qkk st fr h z.1 z.2.size z.2.bytes x' y'=some (v,h')) :
 jck A (fun n=>match jca st fr (.a (.app z.1 z.2.size z.2.bytes x' y')) with | .app b=>n=b | _=>False) φ h w v h' ((execOp ρ o).run P w) /\
 jck A (fun n=>h.lo<=n) φ h w v h' ((execOp ρ o).run P w):=by
 obtain⟨k1,k2,k3⟩:=jb2 hT hz
 obtain⟨i,zv,d,q1,q2,q3,q4,hza,_,_,_,hzl⟩:=k2.ex
 obtain⟨u,hu,hv1⟩:=jaa.1 hv
 obtain⟨u',hu',hv2⟩:=jaa.1 hv1
 have stay:∀ (rv:Value),(execOp ρ o).run P w=.ok (.value rv) w->cV A φ v rv->h'=h ->
  jck A (fun n=>match jca st fr (.a (.app z.1 z.2.size z.2.bytes x' y')) with | .app b=>n=b | _=>False) φ h w v h' ((execOp ρ o).run P w)/\jck A (fun n=>h.lo<=n) φ h w v h' ((execOp ρ o).run P w):=by
  intro rv hr hcv e
  subst e
  exact⟨⟨_,rv,w,φ,hr,rfl,Step.refl _ k rfl rfl rfl rfl,k,hcv⟩,⟨_,rv,w,φ,hr,rfl,Step.refl _ k rfl rfl rfl rfl,k,hcv⟩⟩
 have hX:=hE _ (by rw[ho];exact jb3 (by rw[hargs];simp)) _ _ hx hu
 have hY:=hE _ (by rw[ho];exact jb3 (by rw[hargs];simp)) _ _ hy hu'
 have core:∀ (m:Nat) (new:List SV) (ad':Addr) (cap':Nat) (news:List Value),ρ y=.slice (some ad') m cap'->All2 (cS A φ) new news->news.length=m*z.2.size->(∀ (j:Nat) (u:Value),news[j]?=some u->w.cell? (ad'.add j)=some u) ->
  jlb h z.1 z.2.size z.2.bytes m u new=some (v,h')->jck A (fun n=>match jca st fr (.a (.app z.1 z.2.size z.2.bytes x' y')) with | .app b=>n=b | _=>False) φ h w v h' ((execOp ρ o).run P w)/\jck A (fun n=>h.lo<=n) φ h w v h' ((execOp ρ o).run P w):=by
  intro m new ad' cap' news eY hnv hnl hcells hv5
  have hnl':news.length=m*i.size:=by rw[hnl,q3]
  have hone:=jmz hnv
  obtain⟨m1,m2⟩:=j0d k hEb q3 q4 (hza A φ) hzl hX hnv hnl (rn:=(execOp ρ o).run P w) (i:=i) (zv:=zv)
   ⟨fun e A0 n cap eX hn=>je9 ho hargs (by subst e;rw[eX,eY];exact jmc t _ _ i k1 q1 A0 n cap hn _ _),
    fun h0 h48 h63 eX=>je9 ho hargs (by rw[eX,eY];exact run_append_nil (P:=P) w t o.type z.1 i zv k1 q1 q2 ad' m cap' news hnl' hcells h0 h63 h48),
    fun b sLen sCap olds eX hlo hoc hg h63 hfit=>je9 ho hargs (by rw[eX,eY];exact run_append_grow (P:=P) w t o.type z.1 i zv k1 q1 q2 b sLen sCap olds hlo hoc ad' m cap' news hnl' hcells hg h63 hfit),
    fun b off n cap cur ety eX hb hroom hfit=>je9 ho hargs (by rw[eX,eY];exact j39 t _ _ i k1 q1 b off n cap cur ety hb ad' m cap' news hnl' hcells hone hroom hfit)⟩ hv5
  refine⟨m1.mono (fun n hn=>?_),m2⟩
  have hcls:jca st fr (.a (.app z.1 z.2.size z.2.bytes x' y'))=.app n:=by
   show jr4 (ob (ev st fr x') (fun v=>jit v none (fun b _ _ _ _ _=>some b))) .app=_
   rw[hu]
   show jr4 (slB u) .app=_
   rw[hn];rfl
  rw[hcls]
 have nothing:∀ (B:Option Addr) (c':Nat),ρ y=.slice B 0 c'->qc3 u (ok u h)=some (v,h')->jck A (fun n=>match jca st fr (.a (.app z.1 z.2.size z.2.bytes x' y')) with | .app b=>n=b | _=>False) φ h w v h' ((execOp ρ o).run P w)/\jck A (fun n=>h.lo<=n) φ h w v h' ((execOp ρ o).run P w):=by
  intro B c' eY hv3
  have key:∀ A0 n cap,ρ x=.slice A0 n cap->n<=cap->(execOp ρ o).run P w=.ok (.value (ρ x)) w:=fun A0 n cap e hn=>by
   refine je9 ho hargs ?_
   rw[e,eY]
   exact jmc t _ _ i k1 q1 A0 n cap hn B c'
  rcases jbb hv3 with⟨rfl,hv4⟩ | ⟨b,off,n,mc,ex,sz,rfl,hv4⟩ | ⟨rows,rfl,hv4⟩ | ⟨rfl,hv4⟩
  .cases hv4
   exact stay _ (key _ _ _ (show ρ x=.slice none 0 0 from hX) (f0h _)) hX rfl
  .cases hv4
   obtain⟨L,ad,cap,p1,p2,p3,p4,_⟩:=(show cS A φ (.slice b off n mc ex sz) (ρ x) from hX)
   exact stay _ (key _ _ _ p2 oa) hX rfl
  .cases hv4
   obtain⟨ad,cap,p1,p2,_⟩:=jgv (show cD A φ.k (.lst rows) (ρ x) from hX)
   exact stay _ (key _ _ _ p1 p2) hX rfl
  .cases hv4
   obtain⟨ad,p1⟩:=(show cS A φ .emp (ρ x) from hX)
   exact stay _ (key _ _ _ p1 (f0h _)) hX rfl
 rcases jbb hv2 with⟨rfl,hv3⟩ | ⟨b',off',m,mc',ex',sz',rfl,hv3⟩ | ⟨rows,rfl,hv3⟩ | ⟨rfl,hv3⟩
 .exact nothing none 0 (show ρ y=.slice none 0 0 from hY) hv3
 .obtain ⟨new,hnew,hv5⟩:=jaa.1 hv3
  obtain⟨ad',cap',news,eY,hnv,hnl,hcells⟩:=ju6 k (show cS A φ (.slice b' off' m mc' ex' sz') (ρ y) from hY) hnew (fun e=>by rw[e];exact f2a _)
  exact core m new ad' cap' news eY hnv hnl hcells hv5
 .obtain ⟨new,hnew,hv5⟩:=jaa.1 hv3
  obtain⟨ad',cap',news,eY,hnv,hnl,hcells⟩:=jlg k (show cD A φ.k (.lst rows) (ρ y) from hY) hnew
  rw[jba] at hv5
  exact core rows.length new ad' cap' news eY hnv hnl hcells hv5
 .obtain ⟨ad,eY⟩:=(show cS A φ .emp (ρ y) from hY)
  exact nothing (some ad) 0 eY hv3
theorem jme {o:Oper} {bi:Builtin} {args:Array Operand} {ts:Array TypeId} (ho:o.op=.call ⟨.builtin bi,args,ts⟩) :
 ∃ cs,(execOp ρ o).run P w=(builtin bi ts o.type cs (args.map ρ)).run P w:=by
 simp only[execOp,ho,resolve,invoke,Sem.run_bind,Sem.run_pure,Result.andThen_ok]
 grind
theorem qdk (hT:Tys P T) {o:Oper} (hE:jmo A φ π loc st fr o.op.operands.toList ρ) (k:Rel A φ h w) {args:Array Operand} {ts:Array TypeId} {t:TypeId} (ho:o.op=.call ⟨.builtin .copy,args,ts⟩) (ht:ts[0]?=some t) {z:TypeId×TI} (hz:jbw T t=some z)
 {x y:Operand} (hargs:args.toList=[x,y]) {x' y':Od} (hx:cO π loc x=some x') (hy:cO π loc y=some y') {v:AV} (hv:j6d st fr h z.2.size x' y'=some (v,h')) :
 jck A (fun n=>h.lo<=n) φ h w v h' ((execOp ρ o).run P w):=by
 obtain⟨k1,k2,k3⟩:=jb2 hT hz
 obtain⟨u,hu,hv1⟩:=jaa.1 hv
 obtain⟨u',hu',hv2⟩:=jaa.1 hv1
 have e:args.map ρ=#[ρ x,ρ y]:=by grind[f13,f2e]
 have hX:=hE _ (by rw[ho];exact jb3 (by rw[hargs];simp)) _ _ hx hu
 have hY:=hE _ (by rw[ho];exact jb3 (by rw[hargs];simp)) _ _ hy hu'
 have nothing:∀ A0 n c B m c',ρ x=.slice A0 n c->ρ y=.slice B m c'->(n=0∨m=0)->(execOp ρ o).run P w=.ok (.value (.int .i64 0)) w:=by
  intro A0 n c B m c' e1 e2 h0
  have hmin:Nat.min m n=0:=by
   show min m n=0
   rcases h0 with rfl | rfl<;>simp
  have hf:(Builtin.firstCells z.2.size 0 (.slice B m c')).run P w=.ok #[] w:=by
   cases B with
   | none=>rfl
   | some b=>simp[Builtin.firstCells,loadCells,loadCellsFrom]
  obtain⟨bs,hbs⟩:=jme (P:=P) (w:=w) (ρ:=ρ) ho
  rw[hbs,e,e1,e2]
  cases A0<;>simp[builtin,Builtin.copy_,ht,run_underlying k1,Builtin.lenOf,hmin,k2.run_size,hf,storeCells,goInt]
 have stay:(execOp ρ o).run P w=.ok (.value (.int .i64 0)) w->ok (.s (.int .i64 0)) h=some (v,h')->jck A (fun n=>h.lo<=n) φ h w v h' ((execOp ρ o).run P w):=by
  intro hr hv2
  cases hv2
  exact⟨_,_,w,φ,hr,rfl,Step.refl _ k rfl rfl rfl rfl,k,rfl⟩
 have from0:∀ A0 n c,ρ x=.slice A0 n c->n=0->qc3 u' (ok (.s (.int .i64 0)) h)=some (v,h')->jck A (fun n=>h.lo<=n) φ h w v h' ((execOp ρ o).run P w):=by
  intro A0 n c eX h0 hv3
  rcases jbb hv3 with⟨rfl,hv4⟩ | ⟨b',off',m,mc',ex',sz',rfl,hv4⟩ | ⟨rows,rfl,hv4⟩ | ⟨rfl,hv4⟩
  .exact stay (nothing _ _ _ _ _ _ eX (show ρ y=.slice none 0 0 from hY) (.inl h0)) hv4
  .obtain ⟨L,ad,cap,p1,p2,_⟩:=(show cS A φ (.slice b' off' m mc' ex' sz') (ρ y) from hY)
   exact stay (nothing _ _ _ _ _ _ eX p2 (.inl h0)) hv4
  .obtain ⟨ad,cap,p1,_⟩:=jgv (show cD A φ.k (.lst rows) (ρ y) from hY)
   exact stay (nothing _ _ _ _ _ _ eX p1 (.inl h0)) hv4
  .obtain ⟨ad,p1⟩:=(show cS A φ .emp (ρ y) from hY)
   exact stay (nothing _ _ _ _ _ _ eX p1 (.inl h0)) hv4
 rcases jbb hv2 with⟨rfl,hv3⟩ | ⟨b,off,n,mc,ex,sz,rfl,hv3⟩ | ⟨rows,rfl,hv3⟩ | ⟨rfl,hv3⟩
 .exact from0 _ _ _ (show ρ x=.slice none 0 0 from hX) rfl hv3
 rotate_left
 .cases hv3
 .obtain ⟨ad,eX⟩:=(show cS A φ .emp (ρ x) from hX)
  exact from0 _ _ _ eX rfl hv3
 .obtain ⟨L,ad,cap,p1,p2,p3,p4,p5,p6⟩:=(show cS A φ (.slice b off n mc ex sz) (ρ x) from hX)
  have core:∀ (m:Nat) (ad':Addr) (cap':Nat) (cs:List SV) (news:List Value),ρ y=.slice (some ad') m cap'->All2 (cS A φ) cs news->news.length=Nat.min m n*z.2.size->(∀ (j:Nat) (u:Value),news[j]?=some u->w.cell? (ad'.add j)=some u) ->
   ob (wr h b off cs) (fun h=>ok (.s (.int .i64 (Int.ofNat (Nat.min m n)))) h)=some (v,h')->jck A (fun n=>h.lo<=n) φ h w v h' ((execOp ρ o).run P w):=by
   intro m ad' cap' cs news eY hnv hnl hcells hv6
   obtain⟨h1,hw,hv7⟩:=jaa.1 hv6
   cases hv7
   obtain⟨hlo,_⟩:=jle hw
   obtain⟨L',c,ty,e1,_,e2,e3,e4⟩:=k.put hw hnv
   rw[p1] at e1
   cases e1
   have fin:∃ w',(execOp ρ o).run P w=.ok (.value (.int .i64 (Nat.min m n))) w'/\Changed w w' L.b (c.toList.take (L.o+off)++news++c.toList.drop (L.o+off+news.length)).toArray ty:=by
    by_cases h0:n=0∨m=0
    .have hnil:news=[]:=f1i (by rw[hnl];show min m n*z.2.size=0;rcases h0 with rfl | rfl<;>simp)
     have hm0:Nat.min m n=0:=by show min m n=0;rcases h0 with rfl | rfl<;>simp
     refine⟨w,?_,by rw[hnil];exact jmd e2 rfl⟩
     rw[nothing _ _ _ _ _ _ p2 eY h0,hm0];rfl
    .have had:ad=⟨L.b,L.o+off,none⟩:=by
      rcases p6 with⟨h,_⟩ | h
      .exact h
      .omega
     have hf:=run_firstCells_some (P:=P) w z.2.size (Nat.min m n) ad' m cap' news hnl hcells
     have hst:=run_storeCells_at P L.b (L.o+off) ty news 0 c w e2 (by simpa using e3) (jmz hnv)
     simp only[f1z] at hst
     refine⟨_,?_,Changed.row e2 _⟩
     obtain⟨bs,hbs⟩:=jme (P:=P) (w:=w) (ρ:=ρ) ho
     rw[hbs,e,p2,eY]
     simp[builtin,Builtin.copy_,ht,run_underlying k1,Builtin.lenOf,k2.run_size,hf,had,hst,goInt]
   obtain⟨w',fin,hch⟩:=fin
   obtain⟨s,r⟩:=e4 w' hch
   exact⟨_,_,w',φ,fin,rfl,s.mono (fun n e=>by subst e;exact hlo),r,rfl⟩
  have hmin:∀ m,oif (Nat.ble n m) n m=Nat.min m n:=fun m=>by
   rw[jat]
   show _=min m n
   split
   .rename_i hh;rw[jr7] at hh;omega
   .rename_i hh;rw[jr7] at hh;omega
  rcases jbb hv3 with⟨rfl,hv5⟩ | ⟨b',off',m,mc',ex',sz',rfl,hv5⟩ | ⟨rows,rfl,hv5⟩ | ⟨rfl,hv5⟩
  .exact stay (nothing _ _ _ _ _ _ p2 (show ρ y=.slice none 0 0 from hY) (.inr rfl)) hv5
  .obtain ⟨cs,hcs,hv6⟩:=jaa.1 hv5
   rw[hmin] at hcs hv6
   obtain⟨ad',cap',news,eY,hnv,hnl,hcells⟩:=ju6 k (show cS A φ (.slice b' off' m mc' ex' sz') (ρ y) from hY) hcs (fun e=>by
    show min m n*z.2.size=0
    rw[e];simp)
   exact core m ad' cap' cs news eY hnv hnl hcells hv6
  .obtain ⟨all,hall,hv6⟩:=jaa.1 hv5
   obtain⟨cs,hcs,hv7⟩:=jaa.1 hv6
   rw[jba,hmin] at hcs hv7
   obtain⟨ad',cap',news,eY,hnv,hnl,hcells⟩:=jlg k (show cD A φ.k (.lst rows) (ρ y) from hY) hall
   obtain⟨hl,rfl⟩:=(ja8 _).1 hcs
   refine core rows.length ad' cap' _ (news.take (Nat.mul (Nat.min rows.length n) z.2.size)) eY (hnv.take _) ?_ (fun j u hj=>?_) hv7
   .have:=hnv.len
    rw[f1r]
    exact Nat.min_eq_left oa
   .rw [f2d] at hj
    split at hj
    .exact hcells j u hj
    .cases hj
  .obtain ⟨ad',p1'⟩:=(show cS A φ .emp (ρ y) from hY)
   exact stay (nothing _ _ _ _ _ _ p2 p1' (.inr rfl)) hv5
theorem ju7:∀ {n:Nat} {l:List SV} {rows:List (List SV)},j6e sz n l=some rows->rows.length=n/\(∀ (i:Nat) (row:List SV),rows[i]?=some row->row.length=sz)/\∀ (i j:Nat) (row:List SV) (x:SV),rows[i]?=some row->row[j]?=some x->l[i*sz+j]?=some x
 | 0,l,rows,h=>by
  cases h
  simp
 | n+1,l,rows,h=>by
  obtain⟨a,h1,h2⟩:=jaa.1 (show ob (jbp sz l) (fun a=>ob (j6e sz n (jb9 sz l)) (fun r=>some (a::r)))=some rows from h)
  obtain⟨r,h3,h4⟩:=jaa.1 h2
  cases h4
  obtain⟨h5,h6⟩:=(ja8 _).1 h1
  obtain⟨i1,i2,i3⟩:=ju7 h3
  have ha:a.length=sz:=by grind
  refine⟨by simp[i1],fun i row hr=>?_,fun i j row x hr hx=>?_⟩
  .cases i with
   | zero=>simp at hr;subst hr;exact ha
   | succ i=>exact i2 i row (by simpa using hr)
  .cases i with
   | zero =>
    simp at hr;subst hr
    rw[f2a,f1b]
    rw[h6] at hx
    obtain⟨q1,q2⟩:=f0q.1 hx
    rw[List.getElem_take] at q2
    rw[←q2]
    exact f0b _
   | succ i =>
    have:=i3 i j row x (by simpa using hr) hx
    rw[jcb,f1h] at this
    rw[f29]
    rw[show i*sz+sz+j=sz+(i*sz+j) by omega]
    exact this
theorem j4a (hT:Tys P T) {o:Oper} (hE:jmo A φ π loc st fr o.op.operands.toList ρ) (k:Rel A φ h w) {t:TypeId} {x:Operand} (ho:o.op=.slice t x none none none) {z:Nat×TI} (hz:jlc T t=some z)
 {x':Od} (hx:cO π loc x=some x') {v:AV} (hv:jmu st fr h z.1 z.2.size x'=some (v,h')) :
 jck A (fun _=>False) φ h w v h' ((execOp ρ o).run P w):=by
 obtain⟨e,q1,q2,q3⟩:=jhl hT hz
 obtain⟨u,hu,hv1⟩:=jaa.1 hv
 have e0:∀ a:Addr,(if z.1=0 then a else a.add (0*z.2.size))=a:=by
  intro a
  split
  .rfl
  .rw [f2a];unfold Addr.add;simp
 rcases jbz hv1 with⟨b,off,rfl,hv2⟩ | ⟨cells,rfl,hv2⟩
 .obtain ⟨xs,hxs,hv3⟩:=jaa.1 hv2
  have hv4:some (AV.s (.slice b off z.1 z.1 true z.2.size),h)=some (v,h'):=hv3
  simp only[Option.some.injEq,Prod.mk.injEq] at hv4
  obtain⟨rfl,rfl⟩:=hv4
  obtain⟨L,hL,hρ⟩:=(show jqj φ b off (ρ x) from hE _ (by rw[ho];simp[Op.operands]) _ _ hx hu)
  obtain⟨cs,ty,hg,rfl,hl⟩:=joc hxs
  obtain⟨L',c,e1,h3,h4,h5,h6⟩:=k.blk b _ hg
  rw[hL] at e1
  cases e1
  have hfit:L.o+off+z.1*z.2.size<=L.lim∨z.1*z.2.size=0:=by
   have hl':Nat.mul z.1 z.2.size=z.1*z.2.size:=rfl
   rw[hl'] at hl
   simp at hl
   omega
  refine⟨.value (.slice (some ⟨L.b,L.o+off,none⟩) z.1 z.1),.slice (some ⟨L.b,L.o+off,none⟩) z.1 z.1,w,φ,?_,rfl,Step.refl _ k rfl rfl rfl rfl,k,⟨L,_,z.1,hL,rfl,f0h _,f0h _,fun _=>rfl,?_⟩⟩
  .simp [execOp,ho,Instr.sliceAt,Instr.sureAddr,run_underlying q1,Instr.sliceBounds,hρ,q2.run_size,Addr.add]
  .rcases hfit with h7 | h7
   .exact .inl ⟨rfl,h7⟩
   .exact .inr (by
     rcases Nat.mul_eq_zero.1 h7 with h8 | h8
     .exact h8
     .exact absurd h8 q3)
 .obtain ⟨rows,hr,hv3⟩:=jaa.1 hv2
  cases hv3
  obtain⟨b,o',cs,hk,hρ,hcs⟩:=(show ∃ b o cs,φ.k b=some cs/\ρ x=.pointer (some ⟨b,o,none⟩)/\∀ (j:Nat) (x:SV),cells[j]?=some x->∃ u,cs[o+j]?=some u/\cD A φ.k x u from hE _ (by rw[ho];simp[Op.operands]) _ _ hx hu)
  obtain⟨r1,r2,r3⟩:=ju7 hr
  have hcD:cD A φ.k (.lst rows) (.slice (some ⟨b,o',none⟩) rows.length z.1) :=
   .lst rows b o' z.1 z.2.size cs (fun i j=>(cs[o'+i*z.2.size+j]?).getD (.bool false)) hk oa r2
    (fun i j row y h1 h2=>by
     obtain⟨u,h3,_⟩:=hcs _ _ (r3 i j row y h1 h2)
     rw[←f1u] at h3
     rw[h3];rfl)
    (fun i j row y h1 h2=>by
     obtain⟨u,h3,h4⟩:=hcs _ _ (r3 i j row y h1 h2)
     rw[←f1u] at h3
     simp only[h3,f1l]
     exact h4)
  rw[r1] at hcD
  refine⟨.value (.slice (some ⟨b,o',none⟩) z.1 z.1),.slice (some ⟨b,o',none⟩) z.1 z.1,w,φ,?_,rfl,Step.refl _ k rfl rfl rfl rfl,k,hcD⟩
  simp[execOp,ho,Instr.sliceAt,Instr.sureAddr,run_underlying q1,Instr.sliceBounds,hρ,q2.run_size,Addr.add]
theorem jhm {β:Type} {v:SV} {f:List UInt8->Option β} {r:β} (h:jk6 v f=some r):∃ l,v=.str l/\f l=some r:=by
 cases v<;>first | exact⟨_,rfl,h⟩ | cases h
theorem jli:∀ (l r:List UInt8),j3z l r=(l == r)
 | [],[]=>rfl
 | [],_::_=>rfl
 | _::_,[]=>rfl
 | a::l,b::r=>by
  show oif (Nat.beq a.toNat b.toNat) (j3z l r) false=_
  rw[jli l r]
  by_cases e:a=b
  .subst e
   rw[f1w]
   show(l == r)=_
   simp
  .have e':Nat.beq a.toNat b.toNat=false:=by
    grind[UInt8.toNat_inj,f0k]
   rw[e']
   show false=_
   grind
theorem joo:∀ {l:List SV} {b:List UInt8},j55 l=some b->∃ ns:List Int,l=ns.map (SV.int .u8)/\b=ns.map (fun n=>UInt8.ofNat n.toNat)
 | [],b,h=>by cases h;simp
 | a::l,b,h=>by
  obtain⟨k,n,rfl,h1⟩:=jju (show qda a (fun k n=>oif (Nat.beq (ikn k) 4) (ob (j55 l) fun l=>some (UInt8.ofNat (Int.toNat n)::l)) none)=some b from h)
  obtain⟨h2,h3⟩:=jae.1 h1
  obtain⟨c,h4,h5⟩:=jaa.1 h3
  obtain⟨ns,rfl,rfl⟩:=joo h4
  cases h5
  obtain rfl:k=.u8:=by cases k<;>first | rfl | trivial
  exact⟨n::ns,rfl,rfl⟩
theorem jyb:∀ {ns:List Int} {news:List Value},All2 (cS A φ) (ns.map (SV.int .u8)) news->news=ns.map (Value.int .u8)
 | [],_,.nil=>rfl
 | n::ns,_,.cons h t=>by rw[jyb t];cases show _=Value.int .u8 n from h;rfl
theorem ju8 {β:Type} {x:Od} {f:List UInt8->Option β} {r:β} (h:ob (ev st fr x) (fun a=>svc none a (fun a=>jk6 a f))=some r):∃ l,ev st fr x=some (.s (.str l))/\f l=some r:=by
 grind[jaa,jh1,jhm]
theorem jhn {β:Type} {x y:Od} {f:List UInt8->List UInt8->Option β} {r:β} (h:ob (ev st fr x) (fun a=>ob (ev st fr y) (fun b=>svc none a (fun a=>svc none b (fun b=>jk6 a (fun l=>jk6 b (fun q=>f l q))))))=some r):∃ l q,ev st fr x=some (.s (.str l))/\ev st fr y=some (.s (.str q))/\f l q=some r:=by
 grind[jaa,jh1,jhm]
theorem ju9 {β:Type} {v:SV} {f:Bool->Option β} {r:β} (h:qqn v f=some r):∃ b,v=.ifc b/\f b=some r:=by
 cases v<;>first | exact⟨_,rfl,h⟩ | cases h
theorem jlj {x y:Od} (hv:ju0 st fr h neg x y=some (v,h')):h'=h/\∃ p q,ev st fr x=some (.s (.ifc p))/\ev st fr y=some (.s (.ifc q))/\¬ (p=true/\q=true)/\v=.s (.bool (if p=q then !neg else neg)):=by
 obtain⟨a,ha,h1⟩:=jaa.1 hv
 obtain⟨b,hb,h2⟩:=jaa.1 h1
 rcases jh1 h2 with⟨s,rfl,h3⟩ | ⟨_,h3⟩
 .rcases jh1 h3 with⟨t,rfl,h4⟩ | ⟨_,h4⟩
  .obtain ⟨p,rfl,h5⟩:=ju9 h4
   obtain⟨q,rfl,h6⟩:=ju9 h5
   cases p<;>cases q<;>cases neg<;>first | (cases h6;exact⟨rfl,_,_,ha,hb,se,rfl⟩) | trivial
  grind
 grind
theorem jc6 (hn:n<=6) {x y:Od} (hv:jdx st fr h n x y=some (v,h')):h'=h:=by
 match n,hv,hn with
 | 0,hv,_ =>
  obtain⟨a,ha,h1⟩:=jaa.1 (show ob (ev st fr x) (fun v=>ob (qhg v) fun l=>ok (.s (.str l)) h)=some (v,h') from hv)
  obtain⟨l,hl,h2⟩:=jaa.1 h1
  cases h2;rfl
 | 1,hv,_=>obtain⟨_,_,_,_,h6⟩:=jhn (show jx3 st fr h false x y=some (v,h') from hv);cases h6;rfl
 | 2,hv,_=>obtain⟨_,_,_,_,h6⟩:=jhn (show jx3 st fr h true x y=some (v,h') from hv);cases h6;rfl
 | 3,hv,_ =>
  obtain⟨_,_,h6⟩:=ju8 (show jz3 st fr h x=some (v,h') from hv)
  obtain⟨_,h7⟩:=jae.1 h6
  cases h7;rfl
 | 4,hv,_ =>
  obtain⟨_,_,_,_,h6⟩:=jhn (show jq1 st fr h x y=some (v,h') from hv)
  obtain⟨_,h7⟩:=jae.1 h6
  cases h7;rfl
 | 5,hv,_=>exact(jlj (show ju0 st fr h false x y=some (v,h') from hv)).1
 | 6,hv,_=>exact(jlj (show ju0 st fr h true x y=some (v,h') from hv)).1
theorem jsd (hT:Tys P T) {t:TypeId} (h:jed T t=true):∃ e,P.underlying t=some (.slice e)/\P.underlying e=some (.int .u8):=by
 unfold jed at h
 split at h
 .rename_i z hz
  obtain⟨h1,h2,_⟩:=jb2 hT hz
  split at h
  .rename_i k hk
   obtain⟨d,h3,h4⟩:=h2.und
   rw[hk] at h4
   obtain rfl:k=.u8:=by cases k<;>first | rfl | cases h
   exact⟨_,h1,h3.trans (congrArg some h4)⟩
  grind
 grind
theorem qdl (hT:Tys P T) {o:Oper} (hE:jmo A φ π loc st fr o.op.operands.toList ρ) (k:Rel A φ h w) {s d:TypeId} {x:Operand} (ho:o.op=.convert s d x) (hs:jed T s=true) (hd:P.underlying d=some .string)
 {x' y':Od} (hx:cO π loc x=some x') {v:AV} (hv:jdx st fr h 0 x' y'=some (v,h')) :
 ∃ rv,(execOp ρ o).run P w=.ok (.value rv) w/\cV A φ v rv:=by
 obtain⟨e,q1,q2⟩:=jsd hT hs
 obtain⟨a,ha,h1⟩:=jaa.1 (show ob (ev st fr x') (fun v=>ob (qhg v) (fun l=>ok (.s (.str l)) h))=some (v,h') from hv)
 obtain⟨l,hl,h2⟩:=jaa.1 h1
 cases h2
 have hX:cV A φ a (ρ x):=hE _ (by rw[ho];simp[Op.operands]) _ _ hx ha
 have run:∀ r,(convert s d (ρ x)).run P w=.ok r w->(execOp ρ o).run P w=.ok (.value r) w:=fun r hr=>by simp[execOp,ho,hr]
 have hz:l=[]->∀ ad,ρ x=.slice ad 0 0∨(∃ c,ρ x=.slice ad 0 c)->(convert s d (ρ x)).run P w=.ok (.string ⟨l.toArray⟩) w:=by
  rintro rfl ad hr
  have:∃ c,ρ x=.slice ad 0 c:=hr.elim (fun h=>⟨_,h⟩) id
  obtain⟨c,hr⟩:=this
  rw[hr]
  cases ad with
  | none=>rw[run_convert_bytes_nil w s e q1 q2 0 c d hd];rfl
  | some ad =>
   rw[run_convert_bytes_string w s d e (some ad) 0 c q1 q2 hd,run_bytesToString w ad 0 c [] (by
    rfl)]
   rfl
 unfold qhg at hl
 cases a with
 | s sv =>
  cases sv with
  | nilSlice =>
   cases hl
   have hX':ρ x=.slice none 0 0:=hX
   exact⟨_,run _ (hz rfl none (.inl hX')),rfl⟩
  | emp =>
   cases hl
   obtain⟨ad,hX'⟩:=(show ∃ ad,ρ x=.slice (some ad) 0 0 from hX)
   exact⟨_,run _ (hz rfl (some ad) (.inl hX')),rfl⟩
  | lst rows =>
   obtain⟨xs,hxs,hl2⟩:=jaa.1 (show ob (jx2 1 rows) j55=some l from hl)
   obtain⟨ns,rfl,rfl⟩:=joo hl2
   obtain⟨ad,cap,news,eX,hnv,hnl,hcells⟩:=jlg k (show cD A φ.k (.lst rows) (ρ x) from hX) hxs
   have hn:=jyb hnv
   have hl2:=run_loadCells_list (P:=P) w ad news hcells
   rw[hnl,f12,hn] at hl2
   refine⟨_,run (.string ⟨(ns.map (fun n:Int=>UInt8.ofNat n.toNat)).toArray⟩) ?_,rfl⟩
   rw[eX,run_convert_bytes_string w s d e (some ad) rows.length cap q1 q2 hd,run_bytesToString w ad rows.length cap ns hl2,foldl_push_bytes]
   simp[ByteArray.empty,ByteArray.emptyWithCapacity]
   rfl
  | _=>cases hl
 | _=>cases hl
theorem j6x (hT:Tys P T) {o:Oper} (hE:jmo A φ π loc st fr o.op.operands.toList ρ) {op:BinOp} {t:TypeId} {x y:Operand} {yt:TypeId} (ho:o.op=.binOp op t x y yt) (hop:qpw op=some neg)
 {x' y':Od} (hx:cO π loc x=some x') (hy:cO π loc y=some y') {v:AV} (hv:jdx st fr h (bif neg then 2 else 1) x' y'=some (v,h')) :
 ∃ rv,(execOp ρ o).run P w=.ok (.value rv) w/\cV A φ v rv:=by
 have hv':jx3 st fr h neg x' y'=some (v,h'):=by cases neg<;>exact hv
 obtain⟨l,r,ha,hb,h6⟩:=jhn hv'
 have hX:ρ x=.string ⟨l.toArray⟩:=hE _ (by rw[ho];simp[Op.operands]) _ _ hx ha
 have hY:ρ y=.string ⟨r.toArray⟩:=hE _ (by rw[ho];simp[Op.operands]) _ _ hy hb
 rcases jjy hop with⟨rfl,rfl⟩ | ⟨rfl,rfl⟩
 .cases h6
  refine⟨.bool (l == r),?_,by rw[←jli];rfl⟩
  simp[execOp,ho,hX,hY,eqGuard,Go.binOp,Op.stringOp]
 .cases h6
  refine⟨.bool (!(l == r)),?_,by rw[←jli];show cS A φ (.bool (jis (j3z l r))) (.bool (!j3z l r));cases j3z l r<;>rfl⟩
  simp[execOp,ho,hX,hY,eqGuard,Go.binOp,Op.stringOp]
theorem j4b {o:Oper} (hE:jmo A φ π loc st fr o.op.operands.toList ρ) {t:TypeId} {x y:Operand} {yt:TypeId} (ho:o.op=.binOp .add t x y yt)
 {x' y':Od} (hx:cO π loc x=some x') (hy:cO π loc y=some y') {v:AV} (hv:jdx st fr h 4 x' y'=some (v,h')) :
 ∃ rv,(execOp ρ o).run P w=.ok (.value rv) w/\cV A φ v rv:=by
 obtain⟨l,r,ha,hb,h6⟩:=jhn (show jq1 st fr h x' y'=some (v,h') from hv)
 obtain⟨h7,h8⟩:=jae.1 h6
 have h9:l.length+r.length<=1000000000:=by
  simp_all[f0l,jba]
 have hX:ρ x=.string ⟨l.toArray⟩:=hE _ (by rw[ho];simp[Op.operands]) _ _ hx ha
 have hY:ρ y=.string ⟨r.toArray⟩:=hE _ (by rw[ho];simp[Op.operands]) _ _ hy hb
 cases h8
 refine⟨.string ⟨(l++r).toArray⟩,?_,by rw[jcv];rfl⟩
 have e1:(⟨l.toArray⟩:ByteArray)++⟨r.toArray⟩=⟨(l++r).toArray⟩:=by
  rfl
 have e2:¬ (((⟨l.toArray⟩:ByteArray).size+(⟨r.toArray⟩:ByteArray).size:Nat):Int)>IntKind.i64.max:=by
  have h1:(⟨l.toArray⟩:ByteArray).size=l.length:=by simp[ByteArray.size]
  have h2:(⟨r.toArray⟩:ByteArray).size=r.length:=by simp[ByteArray.size]
  have h3:IntKind.i64.max=9223372036854775807:=by decide
  rw[h1,h2,h3]
  omega
 simp only[execOp,ho,hX,hY,eqGuard,Go.binOp,Op.stringOp,Sem.run_bind]
 simp_all
theorem j4c (hT:Tys P T) {o:Oper} (hE:jmo A φ π loc st fr o.op.operands.toList ρ) {args:Array Operand} {ts:Array TypeId} (ho:o.op=.call ⟨.builtin .len,args,ts⟩) {t:TypeId} (ht:ts[0]?=some t) (hst:P.underlying t=some .string)
 {x:Operand} (hargs:args.toList=[x]) {x':Od} (hx:cO π loc x=some x') {v:AV} (hv:jdx st fr h 3 x' x'=some (v,h')) :
 ∃ rv,(execOp ρ o).run P w=.ok (.value rv) w/\cV A φ v rv:=by
 obtain⟨l,ha,h6⟩:=ju8 (show jz3 st fr h x'=some (v,h') from hv)
 obtain⟨_,h8⟩:=jae.1 h6
 have hX:ρ x=.string ⟨l.toArray⟩:=hE _ (by grind[jb3]) _ _ hx ha
 cases h8
 have ha2:args.map ρ=#[ρ x]:=by grind[f13,f2e]
 refine⟨goInt (⟨l.toArray⟩:ByteArray).size,?_,?_⟩
 .simp only[execOp,ho,resolve,invoke,builtin,Sem.run_bind,Sem.run_pure,Result.andThen_ok,ha2,hX,Builtin.len_,ht]
  simp[run_underlying hst]
 .have h1:(⟨l.toArray⟩:ByteArray).size=l.length:=by simp[ByteArray.size]
  rw[h1,jba];rfl
theorem jq8 (l:List UInt8):u8s l=l.map (fun b=>.int .u8 (b.toNat:Int)):=by
 induction l with
 | nil=>rfl
 | cons a l ih=>show SV.int .u8 (Int.ofNat a.toNat)::u8s l=_;grind
theorem j6y:∀ (l:List UInt8),All2 (cS A φ) (l.map (fun b=>SV.int .u8 (b.toNat:Int))) (l.map (fun b=>Value.int .u8 (b.toNat:Int)))
 | []=>.nil
 | _::l=>.cons rfl (j6y l)
theorem jfw {o:Oper} {args:Array Operand} {t u:TypeId} (ho:o.op=.call ⟨.builtin .append,args,#[t,u]⟩) {x y:Operand} (hargs:args.toList=[x,y]) {rv:Value}
 (hr:(Builtin.append_ #[t,u] o.type #[ρ x,ρ y]).run P w=.ok rv w'):(execOp ρ o).run P w=.ok (.value rv) w':=by
 have e:args.map ρ=#[ρ x,ρ y]:=by grind[f13,f2e]
 simp only[execOp,ho,resolve,invoke,builtin,Sem.run_bind,Sem.run_pure,Result.andThen_ok,e,hr]
theorem jyc (t u ty e:TypeId) (i:TypeInfo) (ht:P.underlying t=some (.slice e)) (hu:P.underlying u=some .string) (hi:P.info? e=some i) (hs1:i.size=1)
 (b off n cap:Nat) (cur:Array Value) (ety:TypeId) (hg:w.heap[b]?=some (.cells cur ety (0,0))) (s:ByteArray)
 (hroom:n+s.size<=cap) (hfit:off+n+s.size<=cur.size) :
 (Builtin.append_ #[t,u] ty #[.slice (some ⟨b,off,none⟩) n cap,.string s]).run P w =
  .ok (.slice (some ⟨b,off,none⟩) (n+s.size) cap) (w.setRow b (cur.toList.take (off+n)++Lib.strCells s++cur.toList.drop (off+n+s.size)).toArray):=by
 have hf:=Lib.run_firstCells_string (P:=P) w 1 s
 have hst:=run_storeCells_at P b (off+n) ety (Lib.strCells s) 0 cur w hg (by grind[Lib.strCells_length]) (Lib.strCells_oneCell s)
 simp only[Lib.strCells_length] at hst
 simp[Builtin.append_,run_underlying ht,run_underlying hu,sizeOf,typeInfo,hi,hs1,Builtin.lenOf,hroom,hf,jcc,hst]
theorem jse (t u ty e:TypeId) (i:TypeInfo) (ht:P.underlying t=some (.slice e)) (hu:P.underlying u=some .string) (hi:P.info? e=some i) (A0:Option Addr) (n cap:Nat) (hn:n<=cap) (s:ByteArray) (h0:s.size=0) :
 (Builtin.append_ #[t,u] ty #[.slice A0 n cap,.string s]).run P w=.ok (.slice A0 n cap) w:=by
 have hf:(Builtin.firstCells i.size 0 (.string s)).run P w=.ok #[] w:=by simp[Builtin.firstCells]
 cases A0<;>simp[Builtin.append_,run_underlying ht,run_underlying hu,sizeOf,typeInfo,hi,Builtin.lenOf,h0,hn,hf,storeCells]
theorem j4d (hT:Tys P T) {o:Oper} (hE:jmo A φ π loc st fr o.op.operands.toList ρ) (k:Rel A φ h w) {args:Array Operand} {t t2:TypeId} (ho:o.op=.call ⟨.builtin .append,args,#[t,t2]⟩) {z:TypeId×TI} (hz:jbw T t=some z) (hEb:z.1≠bT)
 (hst:jc2 T t2=true) (hs1:z.2.size=1) (hb1:z.2.bytes=1) {x y:Operand} (hargs:args.toList=[x,y]) {x' y':Od} (hx:cO π loc x=some x') (hy:cO π loc y=some y') {v:AV} (hv:jz4 st fr h z.1 x' y'=some (v,h')) :
 jck A (fun n=>h.lo<=n) φ h w v h' ((execOp ρ o).run P w):=by
 obtain⟨k1,k2,k3⟩:=jb2 hT hz
 have hu2:=jod hT hst
 obtain⟨i,zv,d,q1,q2,q3,q4,hza,_,_,_,hzl⟩:=k2.ex
 obtain⟨u,hu,hv1⟩:=jaa.1 hv
 obtain⟨u',hu',hv2⟩:=jaa.1 hv1
 obtain⟨s',rfl,hv3⟩:=jcn hv2
 obtain⟨l,rfl,hv4⟩:=jhm hv3
 have hX:=hE _ (by grind[jb3]) _ _ hx hu
 have hY:ρ y=.string ⟨l.toArray⟩:=hE _ (by rw[ho];exact jb3 (by rw[hargs];simp)) _ _ hy hu'
 have hsz:(⟨l.toArray⟩:ByteArray).size=l.length:=by simp[ByteArray.size]
 rw[jba,jq8] at hv4
 have hsc:Lib.strCells ⟨l.toArray⟩=l.map (fun b=>Value.int .u8 (b.toNat:Int)):=by simp[Lib.strCells]
 have hnv:=j6y (A:=A) (φ:=φ) l
 have hi1:i.size=1:=q3.trans hs1
 have hnl:(l.map (fun b=>Value.int .u8 (b.toNat:Int))).length=l.length*1:=se
 exact(j0d k hEb (q3.trans hs1) (q4.trans hb1) (hza A φ) (hzl.trans hs1) hX hnv hnl (rn:=(execOp ρ o).run P w) (i:=i) (zv:=zv)
  ⟨fun e A0 n cap eX hn=>jfw ho hargs (by rw[eX,hY];exact jse t t2 _ _ i k1 hu2 q1 A0 n cap hn _ (by rw[hsz];exact e)),
   fun h0 h48 h63 eX=>jfw ho hargs (by
    rw[eX,hY]
    have hr:=run_append_nil_string (P:=P) (w:=w) t t2 o.type z.1 i zv k1 hu2 q1 q2 ⟨l.toArray⟩ (by rw[hsz];exact h0) (by rw[hsz];exact h63) (by rw[hsz];exact h48)
    rw[hsz] at hr
    rw[hr]
    simp),
   fun b sLen sCap olds eX hlo hoc hg h63 hfit=>jfw ho hargs (by
    rw[eX,hY]
    have hr:=Lib.run_append_grow_string (P:=P) (w:=w) t t2 o.type z.1 i zv k1 hu2 q1 q2 b sLen sCap olds hlo hoc ⟨l.toArray⟩ (by rw[hsz];exact hg) (by rw[hsz];exact h63) (by rw[hsz];exact hfit)
    rw[hsz,hsc] at hr
    exact hr),
   fun b off n cap cur ety eX hb hroom hfit=>jfw ho hargs (by
    rw[eX,hY]
    have hr:=jyc (P:=P) t t2 o.type z.1 i k1 hu2 q1 hi1 b off n cap cur ety hb ⟨l.toArray⟩ (by rw[hsz];exact hroom) (by rw[hsz];rw[hi1] at hfit;simp at hfit;omega)
    rw[hsz,hsc] at hr
    rw[hr,hi1]
    simp)⟩ hv4).2
theorem jyd (hT:Tys P T) {t:TypeId} (h:jn4 T t=true):∃ ms,P.underlying t=some (.interface ms):=by
 unfold jn4 at h
 split at h
 .rename_i ti hti
  split at h
  .rename_i hk
   obtain⟨d,h1,h2⟩:=(hT _ _ hti).und
   rw[hk] at h2
   obtain⟨ms,h3⟩:=h2
   grind
  grind
 grind
theorem jye {y:Operand} {y':Od} (hy:cO π loc y=some y') (h:jn3 y'=true):y'=.c (.s (.ifc false))/\∃ c,y=.const c:=by
 unfold jn3 at h
 split at h
 .cases y with
  | tmp t =>
   simp only[cO] at hy
   grind
  | const c=>simp
  | func f=>cases hy
  | global g =>
   simp only[cO] at hy
   grind
 grind
theorem j6z (hT:Tys P T) {o:Oper} (hE:jmo A φ π loc st fr o.op.operands.toList ρ) {op:BinOp} {t:TypeId} {x y:Operand} {yt:TypeId} (ho:o.op=.binOp op t x y yt) (hop:qpw op=some neg) (ht:jn4 T t=true)
 {x' y':Od} (hx:cO π loc x=some x') (hy:cO π loc y=some y') (hn:jn3 y'=true) {v:AV} (hv:jdx st fr h (bif neg then 6 else 5) x' y'=some (v,h')) :
 ∃ rv,(execOp ρ o).run P w=.ok (.value rv) w/\cV A φ v rv:=by
 obtain⟨ms,hu⟩:=jyd hT ht
 obtain⟨rfl,c,rfl⟩:=jye hy hn
 have hv':ju0 st fr h neg x' (.c (.s (.ifc false)))=some (v,h'):=by cases neg<;>exact hv
 obtain⟨_,p,q,ha,hb,hpq,rfl⟩:=jlj hv'
 cases hb
 have hX:qku p (ρ x):=hE _ (by rw[ho];simp[Op.operands]) _ _ hx ha
 have hY0:qku false (ρ (.const c)):=hE _ (by rw[ho];simp[Op.operands]) _ _ hy (show ev st fr (.c (.s (.ifc false)))=some (.s (.ifc false)) from rfl)
 have hY:ρ (.const c)=.nilIface:=by
  rcases hY0 with⟨h1,_⟩ | ⟨_,h1⟩
  .cases h1
  .exact h1
 refine⟨.bool (if p=false then !neg else neg),?_,rfl⟩
 rcases hX with⟨rfl,tt,pp,h1⟩ | ⟨rfl,h1⟩
 .have eq0:(Op.equal t (.iface tt pp) .nilIface).run P w=.ok false w:=by
   show(Op.equalIn (9999+1) t (.iface tt pp) .nilIface).run P w=_
   unfold Op.equalIn
   simp only[Sem.run_bind,run_underlying hu,Result.andThen_ok]
   rfl
  rcases jjy hop with⟨rfl,rfl⟩ | ⟨rfl,rfl⟩
  .simp [execOp,ho,h1,hY,eqGuard,Go.binOp,eq0]
  .simp [execOp,ho,h1,hY,eqGuard,Go.binOp,eq0]
 .have eq0:(Op.equal t .nilIface .nilIface).run P w=.ok true w:=by
   show(Op.equalIn (9999+1) t .nilIface .nilIface).run P w=_
   unfold Op.equalIn
   simp only[Sem.run_bind,run_underlying hu,Result.andThen_ok]
   rfl
  rcases jjy hop with⟨rfl,rfl⟩ | ⟨rfl,rfl⟩
  .simp [execOp,ho,h1,hY,eqGuard,Go.binOp,eq0]
  .simp [execOp,ho,h1,hY,eqGuard,Go.binOp,eq0]
def j60:AO->Prop
 | .call _ _=>True
 | .callv _ _=>True
 | _=>False
theorem j61 (hT:Tys P T) {o:Oper} (hE:jmo A φ π loc st fr o.op.operands.toList ρ) (k:Rel A φ h w) {ao:AO} (hc:cOp T π loc o.op=some (.a ao)) (hn:¬ j60 ao) {cl:FuncId->List AV->Hp->R} (hv:aop cl st fr h ao=some (v,h')) :
 jck A (jx9 h (jca st fr (.a ao))) φ h w v h' ((execOp ρ o).run P w)/\jck A (fun n=>h.lo<=n) φ h w v h' ((execOp ρ o).run P w):=by
 have jhv:∀ {V:Nat->Prop},jck A (fun _=>False) φ h w v h' ((execOp ρ o).run P w)->jck A V φ h w v h' ((execOp ρ o).run P w):=fun k=>k.mono (fun _ h=>h.elim)
 cases hop:o.op with
 | alloc e =>
  rw[hop] at hc
  obtain⟨ti,hti,e⟩:=f0a.1 hc
  cases e
  have m:=qkv (ρ:=ρ) hT k hop hti hv
  exact⟨jhv m,jhv m⟩
 | box e x =>
  rw[hop] at hc
  obtain⟨y,hy,e⟩:=f0a.1 hc
  cases e
  have m:=qkw (P:=P) hE k hop hy hv
  exact⟨jhv m,jhv m⟩
 | buildSlice t n ps =>
  rw[hop] at hc
  simp only[cOp] at hc
  split at hc
  .rename_i z hz
   cases hb:Nat.ble (n*z.2.size) 16777216 with
   | true =>
    rw[hb] at hc
    obtain⟨l,hl,e⟩:=f0a.1 hc
    cases e
    have m:=j38 hT hE k hop hz hb hl hv
    exact⟨jhv m,jhv m⟩
   | false=>rw[hb] at hc;cases hc
  .cases hc
 | makeSlice t l c =>
  rw[hop] at hc
  simp only[cOp] at hc
  split at hc
  .rename_i z l' c' hz hl hc'
   cases hc
   have m:=jya hT hE k hop hz hl hc' hv
   exact⟨jhv m,jhv m⟩
  .cases hc
 | load t x =>
  rw[hop] at hc
  simp only[cOp] at hc
  split at hc
  .rename_i ti y hti hy
   cases hb:ti1 ti with
   | true =>
    rw[hb] at hc
    cases hc
    obtain⟨rfl,rv,h1,h2⟩:=qdj hT hE k hop hti hb hy hv
    have m:jck A (fun _=>False) φ h' w v h' ((execOp ρ o).run P w):=⟨_,rv,w,φ,h1,rfl,Step.refl _ k rfl rfl rfl rfl,k,h2⟩
    exact⟨jhv m,jhv m⟩
   | false=>rw[hb] at hc;cases hc
  .cases hc
 | store t x y =>
  rw[hop] at hc
  simp only[cOp] at hc
  split at hc
  .rename_i ti x' y' hti hx hy
   cases hc
   exact j6w hT hE k hop hti hx hy hv
  .cases hc
 | call c =>
  obtain⟨callee,args,ts⟩:=c
  rw[hop] at hc
  simp only[cOp,j6i] at hc
  split at hc
  .rename_i as has
   split at hc
   .cases hc;exact absurd trivial hn
   .obtain ⟨y,_,e⟩:=f0a.1 hc
    cases e;exact absurd trivial hn
   .rename_i b
    split at hc
    .rename_i x
     split at hc
     .rename_i t ht
      cases hst:jc2 T t with
      | false=>rw[hst] at hc;obtain⟨_,_,e⟩:=f0a.1 hc;cases e
      | true =>
       rw[hst] at hc
       cases hc
       obtain⟨q,ho,hx⟩:=jsb has
       obtain rfl:=jc6 (by decide) (show jdx st fr h 3 x x=some (v,h') from hv)
       obtain⟨rv,h1,h2⟩:=j4c hT hE hop ht (jod hT hst) ho hx hv
       have m:jck A (fun _=>False) φ h' w v h' ((execOp ρ o).run P w):=⟨_,rv,w,φ,h1,rfl,Step.refl _ k rfl rfl rfl rfl,k,h2⟩
       exact⟨jhv m,jhv m⟩
     .cases hc
    .cases hc
    .cases hc
    .rename_i x y
     obtain⟨q,q',ho,hx,hy⟩:=jsc has
     split at hc
     .rename_i t ht
      obtain⟨z,hz,e⟩:=f0a.1 hc
      cases e
      have m:=qdk hT hE k hop ht hz ho hx hy hv
      exact⟨m,m⟩
     .cases hc
    .rename_i x
     obtain⟨q,ho,hx⟩:=jsb has
     split at hc
     .rename_i t ht
      obtain⟨z,hz,e⟩:=f0a.1 hc
      cases e
      cases (show(none:R)=some (v,h') from hv)
     .cases hc
    .rename_i x y
     obtain⟨q,q',ho,hx,hy⟩:=jsc has
     split at hc
     .rename_i t u hts
      obtain⟨z,hz,hEb,⟨rfl,e⟩ | ⟨hu,hbt,hs1,hb1,e⟩⟩:=jjp hc
      .cases e
       have hts':ts=#[t,t]:=by rw[←f13,hts]
       subst hts'
       obtain⟨m1,m2⟩:=qkx hT hE k hop hz hEb ho hx hy hv
       refine⟨m1.mono (fun n hn=>?_),m2⟩
       revert hn
       cases jca st fr (.a (.app z.1 z.2.size z.2.bytes x y))<;>first | exact fun h=>h | exact fun h=>h.elim
      .cases e
       have hts':ts=#[t,u]:=by rw[←f13,hts]
       subst hts'
       have m:=j4d hT hE k hop hz hEb hu hs1 hb1 ho hx hy (show jz4 st fr h z.1 x y=some (v,h') from hv)
       exact⟨m,m⟩
     .cases hc
    .cases hc;cases hv
   .cases hc;cases hv
  .cases hc
 | makeMap t r =>
  rw[hop] at hc
  cases r with
  | none =>
   obtain⟨z,hz,e⟩:=f0a.1 hc
   cases e
   cases (show(none:R)=some (v,h') from hv)
  | some _=>cases hc;cases hv
 | lookup t x y okf =>
  rw[hop] at hc
  simp only[cOp] at hc
  split at hc
  .rename_i z x' y' hz hx hy
   cases hc
   cases (show(none:R)=some (v,h') from hv)
  .cases hc
 | mapUpdate t x y u =>
  rw[hop] at hc
  simp only[cOp] at hc
  split at hc
  .rename_i z x' y' u' hz hx hy hu
   cases hc
   cases (show(none:R)=some (v,h') from hv)
  .cases hc
 | move x=>rw[hop] at hc;obtain⟨_,_,e⟩:=f0a.1 hc;cases e
 | assign x=>rw[hop] at hc;obtain⟨_,_,e⟩:=f0a.1 hc;cases e
 | pick c a b=>rw[hop] at hc;simp only[cOp] at hc;split at hc<;>cases hc
 | build t ps =>
  rw[hop] at hc
  simp only[cOp] at hc
  split at hc
  .split at hc
   .obtain ⟨_,_,e⟩:=f0a.1 hc;cases e
   .split at hc
    .obtain ⟨_,_,e⟩:=f0a.1 hc;cases e
    .cases hc
   .cases hc
  .cases hc
 | binOp op t x y yt =>
  rw[hop] at hc
  simp only[cOp] at hc
  split at hc
  .cases hi:jz8 T t with
   | true=>rw[hi] at hc;obtain⟨_,_,e⟩:=f0a.1 hc;cases e
   | false =>
    rw[hi] at hc
    simp only[cond_false] at hc
    cases hsl:(jbw T t).isSome with
    | true=>rw[hsl] at hc;obtain⟨_,_,e⟩:=f0a.1 hc;cases e
    | false =>
     rename_i x' y' hx' hy'
     rw[hsl] at hc
     simp only[cond_false] at hc
     split at hc
     .cases hc
     .rename_i n hn' _
      cases hpt:jz7 T t with
      | false =>
       rw[hpt] at hc
       cases hst:jc2 T t with
       | false =>
        rw[hst] at hc
        simp only[cond_false] at hc
        cases hif:(jn4 T t&&jn3 y') with
        | false=>rw[hif] at hc;cases hc
        | true =>
         rw[hif] at hc
         cases hc
         obtain⟨hi1,hi2⟩:=f05 _ _▸hif
         obtain rfl:=jc6 (by cases n<;>decide) (show jdx st fr h _ x' y'=some (v,h') from hv)
         obtain⟨rv,h1,h2⟩:=j6z hT hE hop hn' hi1 hx' hy' hi2 hv
         have m:jck A (fun _=>False) φ h' w v h' ((execOp ρ o).run P w):=⟨_,rv,w,φ,h1,rfl,Step.refl _ k rfl rfl rfl rfl,k,h2⟩
         exact⟨jhv m,jhv m⟩
       | true =>
        rw[hst] at hc
        cases hc
        obtain rfl:=jc6 (by cases n<;>decide) (show jdx st fr h _ x' y'=some (v,h') from hv)
        obtain⟨rv,h1,h2⟩:=j6x hT hE hop hn' hx' hy' hv
        have m:jck A (fun _=>False) φ h' w v h' ((execOp ρ o).run P w):=⟨_,rv,w,φ,h1,rfl,Step.refl _ k rfl rfl rfl rfl,k,h2⟩
        exact⟨jhv m,jhv m⟩
      | true =>
       rw[hpt] at hc
       cases hc
       cases (show(none:R)=some (v,h') from hv)
     .split at hc
      .cases hst:jc2 T t with
       | false=>rw[hst] at hc;cases hc
       | true =>
        rw[hst] at hc
        cases hc
        obtain rfl:=jc6 (by decide) (show jdx st fr h 4 x' y'=some (v,h') from hv)
        obtain⟨rv,h1,h2⟩:=j4b hE hop hx' hy' hv
        have m:jck A (fun _=>False) φ h' w v h' ((execOp ρ o).run P w):=⟨_,rv,w,φ,h1,rfl,Step.refl _ k rfl rfl rfl rfl,k,h2⟩
        exact⟨jhv m,jhv m⟩
      .cases hc
  .cases hc
 | unOp op t x=>rw[hop] at hc;cases op<;>first | (obtain⟨_,_,e⟩:=f0a.1 hc;cases e;done) | (cases hc;cases hv)
 | makeFunc fn fst caps =>
  rw[hop] at hc
  cases fn<;>first | (cases hc;cases hv;done) | skip
  simp only[cOp] at hc
  cases hb:Nat.beq fst.size 0 with
  | true=>rw[hb] at hc;obtain⟨_,_,e⟩:=f0a.1 hc;cases e
  | false=>rw[hb] at hc;cases hc
 | convert s d x =>
  rw[hop] at hc
  simp only[cOp] at hc
  split at hc
  .rename_i ts ti x' hs' hd' hx'
   split at hc
   .cases hc
   .rename_i hk
    cases hb:jed T s with
    | false=>rw[hb] at hc;cases hc
    | true =>
     rw[hb] at hc
     cases hc
     obtain rfl:=jc6 (by decide) (show jdx st fr h 0 x' x'=some (v,h') from hv)
     obtain⟨d2,hd2,hk2⟩:=(hT _ _ hd').und
     rw[hk] at hk2
     obtain⟨rv,h1,h2⟩:=qdl (y':=x') hT hE k hop hb (hd2.trans (congrArg some hk2)) hx' hv
     have m:jck A (fun _=>False) φ h' w v h' ((execOp ρ o).run P w):=⟨_,rv,w,φ,h1,rfl,Step.refl _ k rfl rfl rfl rfl,k,h2⟩
     exact⟨jhv m,jhv m⟩
   .cases hc
  .cases hc
 | nilCheck x=>rw[hop] at hc;obtain⟨_,_,e⟩:=f0a.1 hc;cases e
 | slice t x lo hi mx =>
  rw[hop] at hc
  cases mx with
  | some m=>cases hi with
   | none=>cases hc;cases hv
   | some h=>simp only[cOp] at hc;split at hc<;>cases hc
  | none =>
   simp only[cOp] at hc
   split at hc
   .cases hc
   .rename_i x' hs hx hlo hhi
    obtain⟨z,hz,e⟩:=f0a.1 hc
    cases e
    have hl:lo=none:=by
     cases lo with
     | none=>rfl
     | some q=>obtain⟨_,_,e⟩:=f0a.1 (show(cO π loc q).map some=some none from hlo);cases e
    have hh:hi=none:=by
     cases hi with
     | none=>rfl
     | some q=>obtain⟨_,_,e⟩:=f0a.1 (show(cO π loc q).map some=some none from hhi);cases e
    subst hl hh
    have m:=j4a hT hE k hop hz hx hv
    exact⟨jhv m,jhv m⟩
   .cases hc
 | fieldAddr t x f=>rw[hop] at hc;simp only[cOp] at hc;split at hc<;>cases hc
 | field t x f =>
  rw[hop] at hc
  simp only[cOp] at hc
  split at hc
  .rename_i p _ _ _
   cases hb:ti1 p.2 with
   | true=>rw[hb] at hc;cases hc
   | false=>rw[hb] at hc;cases hc
  .cases hc
 | indexAddr t x i=>rw[hop] at hc;simp only[cOp] at hc;split at hc<;>cases hc
 | index t x i =>
  rw[hop] at hc
  simp only[cOp] at hc
  cases hst:jc2 T t with
  | true =>
   rw[hst] at hc
   simp only[cond_true] at hc
   split at hc<;>cases hc
  | false =>
  rw[hst] at hc
  simp only[cond_false] at hc
  split at hc
  .rename_i z _ _ _ _ _
   cases hb:ti1 z.2 with
   | true=>rw[hb] at hc;cases hc
   | false=>rw[hb] at hc;cases hc
  .cases hc
 | extract x i=>rw[hop] at hc;obtain⟨_,_,e⟩:=f0a.1 hc;cases e
 | _=>rw[hop] at hc;cases hc;cases hv
end
theorem jop (x:Nat):∀ (l:List Nat) (k:Nat),idx x l (k+1)=(idx x l k).map (·+1)
 | [],k=>rfl
 | a::l,k=>by
  simp only[idx]
  cases Nat.beq a x with
  | true=>rfl
  | false=>simp[jop]
theorem jd7 {x:Nat}:∀ {l:List Nat} {j:Nat},idx x l 0=some j->l[j]?=some x
 | [],j,h=>by cases h
 | a::l,j,h=>by
  simp only[idx] at h
  cases hb:Nat.beq a x with
  | true=>grind[f0k]
  | false =>
   rw[hb] at h
   rw[jop] at h
   obtain⟨i,hi,rfl⟩:=f0a.1 h
   simpa using jd7 hi
theorem je1 (x:Nat):∀ (l:List (Option Nat)) (k:Nat),jmv x l (k+1)=(jmv x l k).map (·+1)
 | [],k=>rfl
 | some a::l,k=>by
  simp only[jmv]
  cases Nat.beq a x with
  | true=>rfl
  | false=>simp[je1]
 | none::l,k=>by
  simp only[jmv]
  simp[je1]
theorem jh7 {x:Nat}:∀ {l:List (Option Nat)} {j:Nat},jmv x l 0=some j->l[j]?=some (some x)
 | [],j,h=>by cases h
 | some a::l,j,h=>by
  simp only[jmv] at h
  cases hb:Nat.beq a x with
  | true=>grind[f0k]
  | false =>
   rw[hb] at h
   rw[je1] at h
   obtain⟨i,hi,rfl⟩:=f0a.1 h
   simpa using jh7 hi
 | none::l,j,h=>by
  simp only[jmv] at h
  rw[je1] at h
  obtain⟨i,hi,rfl⟩:=f0a.1 h
  simpa using jh7 hi
theorem jj2 (x:Nat) (d:Option Nat) (l:List (Option Nat)):jmv x (d::l) 0=if d=some x then some 0 else (jmv x l 0).map (·+1):=by
 cases d with
 | none =>
  simp only[jmv]
  simp[je1]
 | some a =>
  simp only[jmv]
  simp[je1]
section
variable (A:Nat->Int)
def FrR (φ:Phi) (π:List Nat) (fr:List AV) (a:Act):Prop:=∀ t j v,idx t π 0=some j->fr[j]?=some v->cV A φ v (a.tmps.getD t undef)
def LoR (φ:Phi) (loc:List (Option Nat)) (st:List AV) (a:Act):Prop:=∀ t i v,jmv t loc 0=some i->st[i]?=some v->cV A φ v (a.tmps.getD t undef)
end
section
variable {P:Program} {T:Tr TI} {w w':World} {A:Nat->Int} {φ ψ:Phi} {h h':Hp} {π:List Nat} {loc:List (Option Nat)} {st fr:List AV} {a:Act} {W:Nat->Prop}
theorem FrR.mono (hle:φ.le ψ) (k:FrR A φ π fr a):FrR A ψ π fr a:=fun t j v h1 h2=>(k t j v h1 h2).mono hle
theorem LoR.mono (hle:φ.le ψ) (k:LoR A φ loc st a):LoR A ψ loc st a:=fun t j v h1 h2=>(k t j v h1 h2).mono hle
theorem jho {v:Value} {x:AV} (h:jq2 v=some x):cV A φ x v:=by
 unfold jq2 at h
 split at h<;>first | (cases h;rfl) | (cases h;exact .inr ⟨rfl,rfl⟩) | grind
theorem j0e:∀ {l:List SV} {r:List Value},qpv l r=true->∀ (j:Nat) (x:SV),l[j]?=some x->∃ u,r[j]?=some u/\sv1 x u=true
 | [],r,h,j,x,e=>by grind
 | s::l,[],h,j,x,e=>by cases h
 | s::l,v::r,h,j,x,e=>by
  simp only[qpv,f05] at h
  cases j with
  | zero=>grind
  | succ j=>exact j0e h.2 j x e
theorem qdm {k k':IntKind} (h:Nat.beq k.ctorIdx k'.ctorIdx=true):k=k':=by
 cases k<;>cases k'<;>first | rfl | trivial
theorem qqx {k:Nat->Option (Array Value)} {u:Value} (h:sv1 x u=true):cD A k x u:=by
 unfold sv1 at h
 split at h
 .rw [f05,beq_iff_eq] at h
  obtain⟨h1,rfl⟩:=h
  obtain rfl:=qdm h1
  exact .int _ _
 .rw [beq_iff_eq] at h
  subst h
  exact .str _
 grind
theorem jyf (φ:Phi) {g:Nat} {cs:List SV} (hg:qko g=some cs):cS A φ (.cp cs) (.pointer (some ⟨g,0,none⟩)):=by
 obtain⟨c,h1,h2⟩:=φ.g.con g cs hg
 refine⟨g,0,c,h1,rfl,fun j x hx=>?_⟩
 grind[j0e,qqx]
theorem jyg (hf:FrR A φ π fr a) (hl:LoR A φ loc st a) (os:List Operand):jmo A φ π loc st fr os a.eval:=by
 intro x _ y v hy hv
 cases x with
 | tmp t =>
  simp only[cO] at hy
  split at hy
  .rename_i i hi
   cases hy
   have hv':je6 st i=some v:=hv
   rw[jc3] at hv'
   exact hl t i v hi hv'
  .split at hy
   .rename_i j hj
    cases hy
    have hv':je6 fr j=some v:=hv
    rw[jc3] at hv'
    exact hf t j v hj hv'
   grind
 | const c =>
  obtain⟨z,hz,rfl⟩:=f0a.1 (show(jq2 c).map .c=some y from hy)
  cases hv
  exact jho hz
 | func f =>
  cases hy
  cases hv
  exact⟨[],rfl,.nil⟩
 | global g =>
  simp only[cO] at hy
  cases hg:qko g with
  | none=>grind
  | some cs =>
   rw[hg] at hy
   cases hy
   cases hv
   exact jyf φ hg
theorem jm0 {d:Nat} (hd:d<a.tmps.size) (rv:Value) (t:Nat):(a.put (some d) rv).tmps.getD t undef=if t=d then rv else a.tmps.getD t undef:=by
 simp only[Act.put,f0z]
 grind
theorem jj3 (dst:Option Tmp) (rv:Value):(a.put dst rv).tmps.size=a.tmps.size:=by
 cases dst<;>simp[Act.put]
theorem jlk (dst:Option Tmp) (rv:Value):(a.put dst rv).defers=a.defers:=by
 cases dst<;>simp[Act.put]
theorem FrR.put (k:FrR A φ π fr a) (hnt:nt<=a.tmps.size) {dst:Option Tmp} (hd:jr5 nt dst=true) {rv:Value} (hv:cV A φ v rv):FrR A φ π (jc0 fr (jmx π dst) v) (a.put dst rv):=by
 cases dst with
 | none=>exact k
 | some d =>
  have hd':d<a.tmps.size:=by
   have:Nat.ble (d+1) nt=true:=hd
   exact f0o (f0l this) hnt
  intro t j u hj hu
  rw[jm0 hd']
  cases hc:jmx π (some d) with
  | none =>
   rw[hc] at hu
   have:t≠d:=fun e=>by subst e;rw[show idx t π 0=none from hc] at hj;grind
   rw[if_neg this]
   exact k t j u hj hu
  | some i =>
   rw[hc] at hu
   have hu':(j3w fr i v)[j]?=some u:=hu
   rw[ji2] at hu'
   have hi:idx d π 0=some i:=hc
   by_cases e:t=d
   .grind
   .rw [if_neg e]
    have:i≠j:=by
     rintro rfl
     have h1:=jd7 hj
     have h2:=jd7 hi
     rw[h1] at h2
     cases h2
     exact e rfl
    rw[f2f this] at hu'
    exact k t j u hj hu'
theorem LoR.put (k:LoR A φ loc st a) (hnt:nt<=a.tmps.size) {dst:Option Tmp} (hd:jr5 nt dst=true) {rv:Value} (hv:cV A φ v rv):LoR A φ (dst::loc) (v::st) (a.put dst rv):=by
 intro t i u hi hu
 rw[jj2] at hi
 cases dst with
 | none =>
  simp only[reduceCtorEq,if_false] at hi
  obtain⟨i',hi',rfl⟩:=f0a.1 hi
  exact k t i' u hi' (by grind)
 | some d =>
  have hd':d<a.tmps.size:=by
   have:Nat.ble (d+1) nt=true:=hd
   exact f0o (f0l this) hnt
  rw[jm0 hd']
  by_cases e:d=t
  .grind
  .rw [if_neg (fun h=>e h.symm)]
   simp only[Option.some.injEq,e,if_false] at hi
   obtain⟨i',hi',rfl⟩:=f0a.1 hi
   exact k t i' u hi' (by simpa using hu)
theorem ji4 {ops:Array Oper} (hloc:∀ j,j<k->loc[k - 1 - j]?=(ops[j]?).map (·.dst)) (hsz:∀ j d,j<k->loc[k - 1 - j]?=some (some d)->d<a.tmps.size) {o:Oper} (hl:∀ j want d v,o.guard=some (j,want)->jmv d loc 0=some (k - 1 - j)->st[k - 1 - j]?=some v->cV A φ v (a.tmps.getD d undef)) {g:Option (Nat×Bool)} (hg:jn5 loc k o.guard=some g) {b:Bool} (hb:j6f st g=some b) :
 Region.wanted o (yielded ops a.tmps)=b:=by
 cases hgd:o.guard with
 | none =>
  rw[hgd] at hg
  cases hg
  cases hb
  simp[Region.wanted,hgd]
 | some p =>
  obtain⟨j,want⟩:=p
  rw[hgd] at hg
  simp only[jn5] at hg
  cases hj:Nat.blt j k with
  | false=>grind
  | true =>
   rw[hj] at hg
   simp only[cond_true] at hg
   have hjk:j<k:=f0l hj
   split at hg
   .rename_i d hd
    split at hg
    .rename_i i hi
     cases hbe:Nat.beq i (k - 1 - j) with
     | false=>rw[hbe] at hg;cases hg
     | true =>
      rw[hbe] at hg
      cases hg
      obtain rfl:=f0k hbe
      obtain⟨v,hv,h2⟩:=jaa.1 (show ob (je6 st (k - 1 - j)) (fun v=>svc (some false) v (fun s=>jqi s (fun c=>some (oif want c (jis c)))))=some b from hb)
      rw[jc3] at hv
      have hc:=hl j want d v hgd hi hv
      have hlt:=hsz j d hjk hd
      have hop:((ops[j]?).bind (·.dst))=some d:=by
       have:=hloc j hjk
       rw[hd] at this
       cases h3:ops[j]? with
       | none=>rw[h3] at this;cases this
       | some o'=>rw[h3] at this;simp at this;simp[←this]
      have hget:a.tmps[d]?=some (a.tmps.getD d undef):=by
       rw[f0z,f19 hlt];rfl
      have hy:yielded ops a.tmps j=match a.tmps.getD d undef with | .bool b=>some b | _=>none:=by
       simp only[yielded,hop,Option.bind_some,hget]
       cases a.tmps.getD d undef<;>rfl
      rcases jh1 h2 with⟨s,rfl,h4⟩ | ⟨rfl,h4⟩
      .obtain ⟨c,rfl,h5⟩:=jh2 h4
       cases h5
       have hc':a.tmps.getD d undef=.bool c:=hc
       simp only[Region.wanted,hgd,hy,hc']
       cases want<;>cases c<;>rfl
      .cases h4
       have hc':a.tmps.getD d undef=undef:=hc
       simp only[Region.wanted,hgd]
       rw[hy,hc']
       cases want<;>rfl
    .cases hg
   .cases hg
def qky (P:Program) (f:FuncId):Prop:=∃ fn,P.funcs[f]?=some fn/\fn.body.isNone=false/\(fn.name == "runtime.NumGoroutine")=false
def qvn (P:Program) (A:Nat->Int) (f:FuncId) (vs:List AV) (h:Hp) (v:AV) (h':Hp):Prop :=
 qky P f/\∀ φ w (args:Array Value),Rel A φ h w->All2 (cV A φ) vs args.toList ->
  Calls P f args w (fun e w'=>∃ rv φ',e=.returned rv/\Step (fun n=>h.lo<=n) φ φ' h h' w w'/\Rel A φ' h' w'/\cV A φ' v rv)
def qhi (P:Program) (A:Nat->Int) (cl:FuncId->List AV->Hp->R):Prop:=∀ f vs h v h',cl f vs h=some (v,h')->qvn P A f vs h v h'
theorem jmf {f:FuncId} (hf:qky P f) (args:Array Value):(callFunc f args).run P w=.ok (.enter f args) w:=by
 obtain⟨fn,h1,h2,h3⟩:=hf
 simp only[callFunc,Sem.run_bind,run_program,Result.andThen_ok,h1,h3,f1c,if_false,h2,Sem.run_pure]
theorem jh8 {o:Oper} {n:Next} {rv:Value} (hr:(execOp a.eval o).run P w=.ok n w') (hn:qqw n rv) {K:Act->World->Prop} {Q:Exit->Act->World->Prop} (h:K (a.put o.dst rv) w'):o.wp P a w K Q:=by
 unfold Oper.wp
 rw[hr]
 cases n<;>first | (cases hn;exact h) | trivial
theorem jmg:∀ {l:List (Nat×Nat)} {vs:List Value},All2 (fun p x=>jqj φ p.1 p.2 x) l vs->All2 (cV A φ) (jg5 l) vs
 | _,_,.nil=>.nil
 | _,_,.cons h k=>.cons h (jmg k)
theorem j0f {op:Op} {ao:AO} (hc:cOp T π loc op=some (.a ao)) (hn:j60 ao):∃ c,op=.call c:=by
 cases op with
 | call c=>simp
 | alloc e=>obtain⟨_,_,e⟩:=f0a.1 hc;cases e;trivial
 | box e x=>obtain⟨_,_,e⟩:=f0a.1 hc;cases e;exact hn.elim
 | buildSlice t n ps =>
  simp only[cOp] at hc
  split at hc
  .rename_i z hz
   cases hb:Nat.ble (n*z.2.size) 16777216 with
   | true=>rw[hb] at hc;obtain⟨_,_,e⟩:=f0a.1 hc;cases e;exact hn.elim
   | false=>rw[hb] at hc;cases hc
  .cases hc
 | makeSlice t l c=>simp only[cOp] at hc;split at hc<;>cases hc;exact hn.elim
 | load t x =>
  simp only[cOp] at hc
  split at hc
  .rename_i ti y hti hy
   cases hb:ti1 ti with
   | true=>rw[hb] at hc;cases hc;exact hn.elim
   | false=>rw[hb] at hc;cases hc
  .cases hc
 | store t x y=>simp only[cOp] at hc;split at hc<;>cases hc;exact hn.elim
 | move x=>obtain⟨_,_,e⟩:=f0a.1 hc;cases e
 | assign x=>obtain⟨_,_,e⟩:=f0a.1 hc;cases e
 | pick c a b=>simp only[cOp] at hc;split at hc<;>cases hc
 | build t ps =>
  simp only[cOp] at hc
  split at hc
  .split at hc
   .obtain ⟨_,_,e⟩:=f0a.1 hc;cases e
   .split at hc
    .obtain ⟨_,_,e⟩:=f0a.1 hc;cases e
    .cases hc
   .cases hc
  .cases hc
 | binOp op t x y yt =>
  simp only[cOp] at hc
  split at hc
  .cases hi:jz8 T t with
   | true=>rw[hi] at hc;obtain⟨_,_,e⟩:=f0a.1 hc;cases e
   | false =>
    rw[hi] at hc
    simp only[cond_false] at hc
    cases hsl:(jbw T t).isSome with
    | true=>rw[hsl] at hc;obtain⟨_,_,e⟩:=f0a.1 hc;cases e
    | false =>
     rw[hsl] at hc
     simp only[cond_false] at hc
     split at hc
     .cases hc
     .cases hpt:jz7 T t with
      | true=>rw[hpt] at hc;cases hc;exact hn.elim
      | false =>
       rw[hpt] at hc
       cases hst:jc2 T t with
       | true=>rw[hst] at hc;cases hc;exact hn.elim
       | false =>
        rw[hst] at hc
        simp only[cond_false] at hc
        rename_i y' _ _ _ _ _ _ _
        cases hif:(jn4 T t&&jn3 y') with
        | true=>rw[hif] at hc;cases hc;exact hn.elim
        | false=>rw[hif] at hc;cases hc
     .split at hc
      .cases hst:jc2 T t with
       | true=>rw[hst] at hc;cases hc;exact hn.elim
       | false=>rw[hst] at hc;cases hc
      .cases hc
  .cases hc
 | unOp op t x=>cases op<;>first | (obtain⟨_,_,e⟩:=f0a.1 hc;cases e;done) | (cases hc;exact hn.elim)
 | makeFunc fn fst caps =>
  cases fn<;>first | (cases hc;exact hn.elim) | skip
  simp only[cOp] at hc
  cases hb:Nat.beq fst.size 0 with
  | true=>rw[hb] at hc;obtain⟨_,_,e⟩:=f0a.1 hc;cases e
  | false=>rw[hb] at hc;cases hc
 | convert s d x =>
  simp only[cOp] at hc
  split at hc
  .split at hc
   .cases hc
   .cases hb:jed T s with
    | true=>rw[hb] at hc;cases hc;exact hn.elim
    | false=>rw[hb] at hc;cases hc
   .cases hc
  .cases hc
 | nilCheck x=>obtain⟨_,_,e⟩:=f0a.1 hc;cases e
 | slice t x lo hi mx =>
  cases mx with
  | some m=>cases hi with
   | none=>cases hc;exact hn.elim
   | some h=>simp only[cOp] at hc;split at hc<;>cases hc
  | none =>
   simp only[cOp] at hc
   split at hc
   .cases hc
   .obtain ⟨_,_,e⟩:=f0a.1 hc;cases e;exact hn.elim
   .cases hc
 | fieldAddr t x f=>simp only[cOp] at hc;split at hc<;>cases hc
 | field t x f =>
  simp only[cOp] at hc
  split at hc
  .rename_i p _ _ _
   cases hb:ti1 p.2 with
   | true=>rw[hb] at hc;cases hc
   | false=>rw[hb] at hc;cases hc
  .cases hc
 | indexAddr t x i=>simp only[cOp] at hc;split at hc<;>cases hc
 | index t x i =>
  simp only[cOp] at hc
  cases hst:jc2 T t with
  | true =>
   rw[hst] at hc
   simp only[cond_true] at hc
   split at hc<;>cases hc
  | false =>
  rw[hst] at hc
  simp only[cond_false] at hc
  split at hc
  .rename_i z _ _ _ _ _
   cases hb:ti1 z.2 with
   | true=>rw[hb] at hc;cases hc
   | false=>rw[hb] at hc;cases hc
  .cases hc
 | extract x i=>obtain⟨_,_,e⟩:=f0a.1 hc;cases e
 | makeMap t r=>cases r with
  | none=>obtain⟨_,_,e⟩:=f0a.1 hc;cases e;exact hn.elim
  | some _=>cases hc;exact hn.elim
 | lookup t x k okf=>simp only[cOp] at hc;split at hc<;>cases hc;exact hn.elim
 | mapUpdate t x k v=>simp only[cOp] at hc;split at hc<;>cases hc;exact hn.elim
 | _=>cases hc;exact hn.elim
theorem jj4 (hT:Tys P T) {cl:FuncId->List AV->Hp->R} (hcl:qhi P A cl) {o:Oper} (hE:jmo A φ π loc st fr o.op.operands.toList a.eval) (k:Rel A φ h w) {op:IOp} (hc:cOp T π loc o.op=some op) (hv:iop cl st fr h op=some (v,h')) (W:Nat->Prop)
 (hW:W=jx9 h (jca st fr op)∨W=fun n=>h.lo<=n) {K:Act->World->Prop} {Q:Exit->Act->World->Prop}
 (hK:∀ φ' rv w',Step W φ φ' h h' w w'->Rel A φ' h' w'->cV A φ' v rv->K (a.put o.dst rv) w'):o.wp P a w K Q:=by
 cases op with
 | p po =>
  obtain⟨v',hv',h2⟩:=jaa.1 (show ob (pop st fr po) (fun v=>ok v h)=some (v,h') from hv)
  cases h2
  obtain⟨rv,hr,hcv⟩:=jom (w:=w) hT hE hc hv'
  exact jh8 hr rfl (hK φ rv w (Step.refl _ k rfl rfl rfl rfl) k hcv)
 | a ao =>
  by_cases hn:j60 ao
  .have hWl:W=fun n=>h.lo<=n:=by
    rcases hW with rfl | rfl
    .funext n
     cases ao<;>first | (exact(show False from hn).elim) | rfl
    .rfl
   subst hWl
   have call:∀ f (args:Array Value) vs,(execOp a.eval o).run P w=.ok (.enter f args) w->All2 (cV A φ) vs args.toList->cl f vs h=some (v,h')->o.wp P a w K Q:=by
    intro f args vs hr hvs hv
    unfold Oper.wp
    rw[hr,Oper.upon_enter]
    refine Calls.mono ((hcl f vs h v h' hv).2 φ w args k hvs) ?_
    rintro e w' ⟨rv,φ',rfl,s,r,hcv⟩
    exact hK φ' rv w' s r hcv
   cases ao with
   | call f as =>
    obtain⟨vs,hvs,hv1⟩:=jaa.1 (show ob (evs st fr as) (fun vs=>cl f vs h)=some (v,h') from hv)
    obtain⟨c,hop⟩:=j0f hc hn
    .obtain ⟨callee,args,ts⟩:=c
     rw[hop] at hc
     simp only[cOp,j6i] at hc
     split at hc
     .rename_i as' has
      split at hc
      .rename_i f'
       cases hc
       have hE':=jjz hE _ _ _ (fun x hx=>by rw[hop];exact jb3 hx) has hvs
       refine call f (args.map a.eval) vs ?_ (by simpa using hE') hv1
       have hok:=(hcl f vs h v h' hv1).1
       simp only[execOp,hop,resolve,Act.eval,Deferred.ofValue,Sem.run_bind,Sem.run_pure,Result.andThen_ok,invoke,Array.append_empty,Array.empty_append]
       exact jmf hok _
      .obtain ⟨y,_,e⟩:=f0a.1 hc
       cases e
      .split at hc
       all_goals first
        | (cases hc;done)
        | (split at hc<;>first | (cases hc;done) | (obtain⟨_,_,e⟩:=f0a.1 hc;cases e;done) | (rename_i t _;cases hst:jc2 T t<;>rw[hst] at hc<;>first | (cases hc;done) | (obtain⟨_,_,e⟩:=f0a.1 hc;cases e;done)) | (obtain⟨_,_,_,⟨_,e⟩ | ⟨_,_,_,_,e⟩⟩:=jjp hc<;>cases e))
      .cases hc
     .cases hc
   | callv x as =>
    obtain⟨u,hu,hv1⟩:=jaa.1 (show ob (ev st fr x) (fun v=>j3x v (fun f caps=>ob (evs st fr as) (fun vs=>cl f (jf8 vs (jg5 caps)) h)))=some (v,h') from hv)
    obtain⟨f,caps,rfl,hv2⟩:=jh3 hv1
    obtain⟨vs,hvs,hv3⟩:=jaa.1 hv2
    obtain⟨c,hop⟩:=j0f hc hn
    .obtain ⟨callee,args,ts⟩:=c
     rw[hop] at hc
     simp only[cOp,j6i] at hc
     split at hc
     .rename_i as' has
      split at hc
      .cases hc
      .rename_i _ x' _
       obtain⟨y,hy,e⟩:=f0a.1 hc
       cases e
       have hE':=jjz hE _ _ _ (fun x hx=>by rw[hop];exact jb3 hx) has hvs
       obtain⟨us,hfv,hcaps⟩:=(show ∃ vs:List Value,a.eval x'=.func (.func f) #[] vs.toArray/\All2 (fun p x=>jqj φ p.1 p.2 x) caps vs from hE _ (by rw[hop];exact j34) _ _ hy hu)
       rw[jcv] at hv3
       refine call f (args.map a.eval++us.toArray) (vs++jg5 caps) ?_ (by simpa using hE'.append (jmg hcaps)) hv3
       have hok:=(hcl f _ h v h' hv3).1
       simp only[execOp,hop,resolve,hfv,Deferred.ofValue,Sem.run_bind,Sem.run_pure,Result.andThen_ok,invoke,Array.empty_append]
       exact jmf hok _
      .split at hc
       all_goals first
        | (cases hc;done)
        | (split at hc<;>first | (cases hc;done) | (obtain⟨_,_,e⟩:=f0a.1 hc;cases e;done) | (rename_i t _;cases hst:jc2 T t<;>rw[hst] at hc<;>first | (cases hc;done) | (obtain⟨_,_,e⟩:=f0a.1 hc;cases e;done)) | (obtain⟨_,_,_,⟨_,e⟩ | ⟨_,_,_,_,e⟩⟩:=jjp hc<;>cases e))
      .cases hc
     .cases hc
   | _=>exact(show False from hn).elim
  .have h2:=j61 (cl:=cl) hT hE k hc hn hv
   have h3:jck A W φ h w v h' ((execOp a.eval o).run P w):=by
    rcases hW with rfl | rfl
    .exact h2.1
    .exact h2.2
   obtain⟨n,rv,w',φ',hr,hnv,s,r,hcv⟩:=h3
   exact jh8 hr hnv (hK φ' rv w' s r hcv)
end
section
variable {h h':Hp} {st fr:List AV} {W V:Nat->Prop}
def jj5 (cl:FuncId->List AV->Hp->R):Prop:=∀ f vs h v h',WF h->cl f vs h=some (v,h')->Abs (fun n=>h.lo<=n) h h'
theorem Abs.any (k:Abs (fun _=>False) h h'):Abs W h h':=k.mono fun _ h=>h.elim
theorem jmh (k:WF h) {cs:List SV} {ty:TypeId} {g:Nat->AV} (hv:nw h cs ty (fun n h=>ok (g n) h)=some (v,h')):Abs (fun _=>False) h h':=by
 obtain⟨h1,h2,h3⟩:=jr8 hv
 cases h3
 grind[Abs.push]
theorem jva (k:WF h) (hw:wr h b off xs=some h'):Abs (fun n=>n=b) h h'/\h.lo<=b:=by
 obtain⟨hlo,cs,ty,hg,_,rfl⟩:=jle hw
 grind[Abs.put]
theorem jvb (k:WF h) {e:TypeId} {u:AV} {new:List SV} (hv5:jlb h e size bytes m u new=some (v,h')):Abs (fun n=>slB u=some n) h h'/\Abs (fun n=>h.lo<=n) h h':=by
 have stay:ok u h=some (v,h')->Abs ((fun n=>slB u=some n)) h h'/\Abs (fun n=>h.lo<=n) h h':=by
  intro hv2
  cases hv2
  grind[Abs.refl]
 have fresh:Nat.casesOn m (ok u h) (fun _=>jjm bytes m (nw h new e (fun k h=>ok (.s (.slice k 0 m m false size)) h)))=some (v,h')->Abs ((fun n=>slB u=some n)) h h'/\Abs (fun n=>h.lo<=n) h h':=by
  intro hv6
  cases m with
  | zero=>exact stay hv6
  | succ m =>
   obtain⟨_,hv7⟩:=jae.1 (show oif (Nat.ble (Nat.mul (m+1) bytes) 140737488355328) (oif (Nat.ble (m+1) 140737488355328) (nw h new e (fun k h=>ok (.s (.slice k 0 (m+1) (m+1) false size)) h)) none) none=some (v,h') from hv6)
   obtain⟨_,hv8⟩:=jae.1 hv7
   have a:=jmh k hv8
   exact⟨a.any,a.any⟩
 rcases jbb hv5 with⟨rfl,hv6⟩ | ⟨b,off,n,mc,ex,sz,rfl,hv6⟩ | ⟨_,_,hv6⟩ | ⟨rfl,hv6⟩
 .grind
 rotate_left
 .cases hv6
 .exact fresh hv6
 .have hcls:slB (.s (.slice b off n mc ex sz))=some b:=rfl
  rw[hcls]
  obtain⟨_,hv9⟩:=jae.1 hv6
  rw[jat] at hv9
  split at hv9
  .obtain ⟨h1,hw,hv10⟩:=jaa.1 hv9
   cases hv10
   obtain⟨a,hlo⟩:=jva k hw
   exact⟨a.mono (fun n e=>congrArg some e.symm),a.mono (fun n e=>by subst e;exact hlo)⟩
  .obtain ⟨_,hv11⟩:=jae.1 (show oif (Nat.ble (Nat.mul (Nat.add n m) bytes) 140737488355328) (oif (Nat.ble (Nat.add n m) 140737488355328) (jla h e size b off n m ex new) none) none=some (v,h') from hv9)
   obtain⟨_,hv12⟩:=jae.1 hv11
   obtain⟨ab,hab,hv13⟩:=jaa.1 hv12
   cases ab with
   | map va es=>cases hv13
   | arr cs ty =>
   obtain⟨old,hold,hv14⟩:=jaa.1 (show ob (jbp (Nat.mul n size) (jb9 off cs)) (fun old=>Bool.rec
    (oif (Nat.ble h.lo b) (oif (Nat.beq ty e) (nw (h.put b none) (jf8 old new) e (fun k h=>ok (.s (.slice k 0 (Nat.add n m) (Nat.add n m) false size)) h)) none) none)
    (nw h (jf8 old new) e (fun k h=>ok (.s (.slice k 0 (Nat.add n m) (Nat.add n m) false size)) h)) ex)=some (v,h') from hv13)
   cases ex with
   | true =>
    have a:=jmh k (show nw h (jf8 old new) e (fun k h=>ok (.s (.slice k 0 (Nat.add n m) (Nat.add n m) false size)) h)=some (v,h') from hv14)
    exact⟨a.any,a.any⟩
   | false =>
    obtain⟨hlo,hv15⟩:=jae.1 (show oif (Nat.ble h.lo b) (oif (Nat.beq ty e) (nw (h.put b none) (jf8 old new) e (fun k h=>ok (.s (.slice k 0 (Nat.add n m) (Nat.add n m) false size)) h)) none) none=some (v,h') from hv14)
    obtain⟨_,hv16⟩:=jae.1 hv15
    have hlo':h.lo<=b:=f0l hlo
    have a1:=Abs.put k (show(h.get b).isSome=true by rw[hab];rfl) none
    have a2:=(jmh a1.wf hv16).any (W:=fun n=>n=b)
    have a:=a1.trans a2
    exact⟨a.mono (fun n e=>congrArg some e.symm),a.mono (fun n e=>by subst e;exact hlo')⟩
theorem qkz (k:WF h) {e:TypeId} {x y:Od} (hv:qkk st fr h e size bytes x y=some (v,h')) :
 Abs (jx9 h (jca st fr (.a (.app e size bytes x y)))) h h'/\Abs (fun n=>h.lo<=n) h h':=by
 obtain⟨u,hu,hv1⟩:=jaa.1 hv
 obtain⟨u',hu',hv2⟩:=jaa.1 hv1
 have stay:ok u h=some (v,h')->Abs (jx9 h (jca st fr (.a (.app e size bytes x y)))) h h'/\Abs (fun n=>h.lo<=n) h h':=by
  intro hv2
  cases hv2
  grind[Abs.refl]
 have any:qc3 u (ok u h)=some (v,h')->Abs (jx9 h (jca st fr (.a (.app e size bytes x y)))) h h'/\Abs (fun n=>h.lo<=n) h h':=by
  intro hv3
  rcases jbb hv3 with⟨_,hv4⟩ | ⟨_,_,_,_,_,_,_,hv4⟩ | ⟨_,_,hv4⟩ | ⟨_,hv4⟩<;>exact stay hv4
 have core:∀ (m:Nat) (new:List SV),jlb h e size bytes m u new=some (v,h')->Abs (jx9 h (jca st fr (.a (.app e size bytes x y)))) h h'/\Abs (fun n=>h.lo<=n) h h':=by
  intro m new hv5
  obtain⟨a1,a2⟩:=jvb k hv5
  refine⟨a1.mono (fun n hn=>?_),a2⟩
  have hcls:jca st fr (.a (.app e size bytes x y))=.app n:=by
   show jr4 (ob (ev st fr x) (fun v=>jit v none (fun b _ _ _ _ _=>some b))) .app=_
   rw[hu]
   show jr4 (slB u) .app=_
   rw[hn];rfl
  rw[hcls]
  rfl
 grind[jbb,jaa]
theorem jen (k:WF h) {cl:FuncId->List AV->Hp->R} (hcl:jj5 cl) {op:IOp} (hv:iop cl st fr h op=some (v,h')) :
 Abs (jx9 h (jca st fr op)) h h'/\Abs (fun n=>h.lo<=n) h h':=by
 have jhv:Abs (fun _=>False) h h'->Abs (jx9 h (jca st fr op)) h h'/\Abs (fun n=>h.lo<=n) h h':=fun a=>⟨a.any,a.any⟩
 cases op with
 | p po =>
  obtain⟨v',hv',h2⟩:=jaa.1 (show ob (pop st fr po) (fun v=>ok v h)=some (v,h') from hv)
  cases h2
  exact jhv (Abs.refl _ k)
 | a ao =>
  cases ao with
  | new e z=>exact jhv (jmh k (show nw h z e (fun n h=>ok (.s (.ptr n 0)) h)=some (v,h') from hv))
  | box e x =>
   obtain⟨u,hu,hv1⟩:=jaa.1 (show ob (ev st fr x) (fun v=>cel v (fun cs=>nw h cs e (fun n h=>ok (.s (.ptr n 0)) h)))=some (v,h') from hv)
   cases u with
   | s x=>exact jhv (jmh k (show nw h [x] e (fun n h=>ok (.s (.ptr n 0)) h)=some (v,h') from hv1))
   | agg l=>exact jhv (jmh k (show nw h l e (fun n h=>ok (.s (.ptr n 0)) h)=some (v,h') from hv1))
   | _=>cases hv1
  | bslice e size z len ps =>
   obtain⟨u,hu,hv1⟩:=jaa.1 (show ob (fill st fr ps z) (fun cs=>nw h cs e (fun n h=>ok (.s (.slice n 0 len len true size)) h))=some (v,h') from hv)
   exact jhv (jmh k hv1)
  | mkslice e size bytes z l c =>
   obtain⟨u,hu,hv1⟩:=jaa.1 (show jgc st fr h e size bytes z l c=some (v,h') from hv)
   obtain⟨u',hu',hv2⟩:=jaa.1 hv1
   obtain⟨m,_,hv3⟩:=je8 hv2
   obtain⟨n,_,hv4⟩:=je8 hv3
   obtain⟨_,hv5⟩:=jae.1 hv4
   obtain⟨_,hv6⟩:=jae.1 hv5
   obtain⟨_,hv7⟩:=jae.1 hv6
   exact jhv (jmh k hv7)
  | load n agg x =>
   obtain⟨u,hu,hv1⟩:=jaa.1 (show jjl st fr h n agg x=some (v,h') from hv)
   rcases jbz hv1 with⟨b,off,_,hv2⟩ | ⟨cs0,_,hv2⟩
   .obtain ⟨cs,hcs,hv3⟩:=jaa.1 hv2
    obtain⟨v',hv',hv4⟩:=jaa.1 hv3
    cases hv4
    exact jhv (Abs.refl _ k)
   .obtain ⟨cs,hcs,hv3⟩:=jaa.1 hv2
    obtain⟨v',hv',hv4⟩:=jaa.1 hv3
    cases hv4
    exact jhv (Abs.refl _ k)
  | store n x y =>
   obtain⟨p,hp,hv1⟩:=jaa.1 (show jx1 st fr h n x y=some (v,h') from hv)
   obtain⟨u,hu,hv2⟩:=jaa.1 hv1
   obtain⟨b,off,hpb,hv3⟩:=jjv hv2
   have:∃ cs,oif (Nat.beq (jb6 cs) n) (ob (wr h b off cs) (fun h=>ok .undef h)) none=some (v,h'):=by
    cases u with
    | s x=>exact⟨_,hv3⟩
    | agg l=>exact⟨_,hv3⟩
    | _=>cases hv3
   obtain⟨cs,hv4⟩:=this
   obtain⟨_,hv5⟩:=jae.1 hv4
   obtain⟨h1,hw,hv6⟩:=jaa.1 hv5
   cases hv6
   obtain⟨a,hlo⟩:=jva k hw
   have a':=a.mono (V:=fun n=>h.lo<=n) (fun n e=>by subst e;exact hlo)
   subst hpb
   have hcls:jca st fr (.a (.store n x y))=.app b:=by
    show jr4 (ob (ev st fr x) (fun v=>jux v (fun b _=>some b))) .app=_
    rw[hp];rfl
   rw[hcls]
   exact⟨a,a'⟩
  | call f as =>
   obtain⟨vs,hvs,hv1⟩:=jaa.1 (show ob (evs st fr as) (fun vs=>cl f vs h)=some (v,h') from hv)
   have a:=hcl _ _ _ _ _ k hv1
   exact⟨a,a⟩
  | callv x as =>
   obtain⟨u,hu,hv1⟩:=jaa.1 (show ob (ev st fr x) (fun v=>j3x v (fun f caps=>ob (evs st fr as) (fun vs=>cl f (jf8 vs (jg5 caps)) h)))=some (v,h') from hv)
   obtain⟨f,caps,_,hv2⟩:=jh3 hv1
   obtain⟨vs,hvs,hv3⟩:=jaa.1 hv2
   have a:=hcl _ _ _ _ _ k hv3
   exact⟨a,a⟩
  | app e size bytes x y=>exact qkz k hv
  | copy size x y =>
   obtain⟨u,hu,hv1⟩:=jaa.1 (show j6d st fr h size x y=some (v,h') from hv)
   obtain⟨u',hu',hv2⟩:=jaa.1 hv1
   have stay:ok (.s (.int .i64 0)) h=some (v,h')->Abs (fun n=>h.lo<=n) h h':=by
    intro hv
    cases hv
    exact Abs.refl _ k
   have any:∀ w,qc3 w (ok (.s (.int .i64 0)) h)=some (v,h')->Abs (fun n=>h.lo<=n) h h':=by
    intro w hv3
    rcases jbb hv3 with⟨_,hv4⟩ | ⟨_,_,_,_,_,_,_,hv4⟩ | ⟨_,_,hv4⟩ | ⟨_,hv4⟩<;>exact stay hv4
   rcases jbb hv2 with⟨_,hv3⟩ | ⟨b,off,n,mc,ex,sz,_,hv3⟩ | ⟨_,_,hv3⟩ | ⟨_,hv3⟩
   .exact ⟨any _ hv3,any _ hv3⟩
   rotate_left
   .cases hv3
   .exact ⟨any _ hv3,any _ hv3⟩
   .rcases jbb hv3 with⟨_,hv4⟩ | ⟨b',off',m,mc',ex',sz',_,hv4⟩ | ⟨rows,_,hv4⟩ | ⟨_,hv4⟩
    .exact ⟨stay hv4,stay hv4⟩
    .obtain ⟨cs,hcs,hv5⟩:=jaa.1 hv4
     obtain⟨h1,hw,hv6⟩:=jaa.1 hv5
     cases hv6
     obtain⟨a,hlo⟩:=jva k hw
     have a':=a.mono (V:=fun n=>h.lo<=n) (fun n e=>by subst e;exact hlo)
     exact⟨a',a'⟩
    .obtain ⟨al,hal,hv5⟩:=jaa.1 hv4
     obtain⟨cs,hcs,hv5⟩:=jaa.1 hv5
     obtain⟨h1,hw,hv6⟩:=jaa.1 hv5
     cases hv6
     obtain⟨a,hlo⟩:=jva k hw
     have a':=a.mono (V:=fun n=>h.lo<=n) (fun n e=>by subst e;exact hlo)
     exact⟨a',a'⟩
    .exact ⟨stay hv4,stay hv4⟩
  | clear z x=>cases (show(none:R)=some (v,h') from hv)
  | mkmap va=>cases (show(none:R)=some (v,h') from hv)
  | look sig va z okf x y=>cases (show(none:R)=some (v,h') from hv)
  | mupd sig va x y u=>cases (show(none:R)=some (v,h') from hv)
  | slicea n size x =>
   obtain⟨u,hu,hv1⟩:=jaa.1 (show jmu st fr h n size x=some (v,h') from hv)
   rcases jbz hv1 with⟨b,off,_,hv2⟩ | ⟨cells,_,hv2⟩
   .obtain ⟨xs,hxs,hv3⟩:=jaa.1 hv2
    cases hv3
    exact jhv (Abs.refl _ k)
   .obtain ⟨xs,hxs,hv3⟩:=jaa.1 hv2
    cases hv3
    exact jhv (Abs.refl _ k)
  | boxc e x=>cases (show(none:R)=some (v,h') from hv)
  | peq neg x y=>cases (show(none:R)=some (v,h') from hv)
  | strop n x y =>
   rcases f0n n 7 with hn | hn
   .obtain rfl:=jc6 oa (show jdx st fr h n x y=some (v,h') from hv)
    exact jhv (Abs.refl _ k)
   .obtain ⟨e,rfl⟩:∃ e,n=e+7:=⟨n - 7,oa⟩
    obtain⟨u,hu,hv1⟩:=jaa.1 (show jz4 st fr h e x y=some (v,h') from hv)
    obtain⟨u',hu',hv2⟩:=jaa.1 hv1
    obtain⟨s',rfl,hv3⟩:=jcn hv2
    obtain⟨l,rfl,hv4⟩:=jhm hv3
    have a:=(jvb k hv4).2
    exact⟨a,a⟩
  | bad=>cases hv
theorem qdn (k:WF h) {cl:FuncId->List AV->Hp->R} (hcl:jj5 cl) {op:IOp} {g:Option (Nat×Bool)} (hv:qdd cl st fr h op g=some (v,h')):Abs (fun n=>h.lo<=n) h h':=by
 obtain⟨b,hb,hv1⟩:=jaa.1 hv
 cases b with
 | false=>cases hv1;exact Abs.refl _ k
 | true=>exact(jen k hcl hv1).2
theorem j0g {cl:FuncId->List AV->Hp->R} (hcl:jj5 cl):∀ (l:List IOper) (st fr:List AV) (h:Hp) (s:St),WF h->jz5 cl l st fr h=some s->∃ fr' h',s=.mk fr' h'/\Abs (fun n=>h.lo<=n) h h'
 | [],st,fr,h,s,k,hv=>by cases hv;grind[Abs.refl]
 | .mk dst op g::l,st,fr,h,s,k,hv=>by
  obtain⟨p,hp,hv1⟩:=jaa.1 (show ob (qdd cl st fr h op g) (fun p=>jz5 cl l (p.1::st) (jc0 fr dst p.1) p.2)=some s from hv)
  have a:=qdn k hcl   hp
  obtain⟨fr',h',e,a'⟩:=j0g hcl l _ _ _ s a.wf hv1
  have a'':Abs (fun n=>h.lo<=n) p.2 h':=by rw[←a.lo];omega
  exact⟨fr',h',e,a.trans a''⟩
theorem jhp {cl:FuncId->List AV->Hp->R} {t:Tr AB} {lo lo':Nat} {hid hid':List (Nat×Nat)} {op:IOp} {e:Nat->Ent} {d:DR} (hv:jmm cl st fr n t lo lo' hid hid' op e=some d) :
 ∃ v h1,iop cl st fr (.mk n t lo' hid') op=some (v,h1)/\d=.mk v (.mk h1.next h1.tr lo hid) (e h1.next):=by
 obtain⟨p,hp,hv1⟩:=jaa.1 hv
 obtain⟨v,h1⟩:=p
 cases h1 with
 | mk n' t' a b =>
  cases hv1
  exact⟨v,_,hp,rfl⟩
end
end Go.Proofs.YtkpadfebkaangaaGreatDoor.Ev
