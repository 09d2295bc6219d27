/- slices.SortFunc of claims: the kit's contract laid at this program, and the calls that are answered by it. -/
import Derived.Test.YtalbjjoppndjjaaSoA
import Derived.Test.YtalbjjoppndjjaaSoC
import Derived.Test.YtalbjjoppndjjaaMa3
namespace Go.Proofs.Ytalbjjoppndjjaa.Ev
open Go Go.Sort Go.RowKit
set_option linter.all false
set_option maxRecDepth 100000
variable {f sf:FuncId} {h:Hp} {vs:List AV} {n:Nat}
def qez:Go.Shelf.Ren:=⟨fun | 6=>26 | 15=>47 | 14=>46 | 28=>71 | 29=>72 | 20=>63 | 21=>64 | 22=>65 | 23=>66 | 24=>67 | 25=>68 | 26=>69 | 27=>70 | 46=>81 | 47=>82 | 48=>83 | 49=>84 | 50=>85 | 57=>87 | n=>n,fun | 22=>44 | 24=>52 | 25=>77 | 3=>3 | 39=>101 | 0=>0 | 53=>127 | 55=>129 | 4=>4 | 46=>120 | 45=>119 | 50=>124 | 5=>5 | 9=>9 | 66=>141 | 70=>145 | 76=>148 | 77=>102 | n=>n,fun | n=>n⟩
theorem qpp:Go.Proofs.SlLaysF0.n6 Try.prog qez:={
 mixed:=by kernel_rfl,
 f6:=⟨Try.f26.name,by decide,Try.func26.trans (congrArg some (by kernel_rfl))⟩,
 f14:=⟨Try.f46.name,by decide,Try.func46.trans (congrArg some (by kernel_rfl))⟩,
 f15:=Try.func47.trans (congrArg some (by kernel_rfl)),
 f20:=⟨Try.f63.name,by decide,Try.func63.trans (congrArg some (by kernel_rfl))⟩,
 f21:=⟨Try.f64.name,by decide,Try.func64.trans (congrArg some (by kernel_rfl))⟩,
 f22:=⟨Try.f65.name,by decide,Try.func65.trans (congrArg some (by kernel_rfl))⟩,
 f23:=⟨Try.f66.name,by decide,Try.func66.trans (congrArg some (by kernel_rfl))⟩,
 f24:=⟨Try.f67.name,by decide,Try.func67.trans (congrArg some (by kernel_rfl))⟩,
 f25:=⟨Try.f68.name,by decide,Try.func68.trans (congrArg some (by kernel_rfl))⟩,
 f26:=⟨Try.f69.name,by decide,Try.func69.trans (congrArg some (by kernel_rfl))⟩,
 f27:=⟨Try.f70.name,by decide,Try.func70.trans (congrArg some (by kernel_rfl))⟩,
 f28:=Try.func71.trans (congrArg some (by kernel_rfl)),
 f29:=Try.func72.trans (congrArg some (by kernel_rfl)),
 f46:=⟨Try.f81.name,by decide,Try.func81.trans (congrArg some (by kernel_rfl))⟩,
 f47:=Try.func82.trans (congrArg some (by kernel_rfl)),
 f48:=Try.func83.trans (congrArg some (by kernel_rfl)),
 f49:=⟨Try.f84.name,by decide,Try.func84.trans (congrArg some (by kernel_rfl))⟩,
 f50:=⟨Try.f85.name,by decide,Try.func85.trans (congrArg some (by kernel_rfl))⟩,
 f57:=⟨Try.f87.name,by decide,Try.func87.trans (congrArg some (by kernel_rfl))⟩,
 t0:=Try.underlying0,
 a0:=Try.isAgg0,
 z0:=Try.sizeOf0,
 v0:=Try.zeroValue0,
 t3:=Try.underlying3,
 a3:=Try.isAgg3,
 z3:=Try.sizeOf3,
 v3:=Try.zeroValue3,
 t4:=Try.underlying4,
 a4:=Try.isAgg4,
 z4:=Try.sizeOf4,
 v4:=Try.zeroValue4,
 t5:=Try.underlying5,
 a5:=Try.isAgg5,
 z5:=Try.sizeOf5,
 v5:=Try.zeroValue5,
 t9:=Try.underlying9,
 a9:=Try.isAgg9,
 z9:=Try.sizeOf9,
 v9:=Try.zeroValue9,
 t22:=Try.underlying44,
 a22:=Try.isAgg44,
 z22:=Try.sizeOf44,
 v22:=Try.zeroValue44,
 t25:=Try.underlying77,
 a25:=Try.isAgg77,
 z25:=Try.sizeOf77,
 v25:=Try.zeroValue77,
 t39:=Try.underlying101,
 a39:=Try.isAgg101,
 z39:=Try.sizeOf101,
 v39:=Try.zeroValue101,
 t45:=Try.underlying119,
 a45:=Try.isAgg119,
 z45:=Try.sizeOf119,
 v45:=Try.zeroValue119,
 t46:=Try.underlying120,
 a46:=Try.isAgg120,
 z46:=Try.sizeOf120,
 v46:=Try.zeroValue120,
 t50:=Try.underlying124,
 a50:=Try.isAgg124,
 z50:=Try.sizeOf124,
 v50:=Try.zeroValue124,
 t53:=Try.underlying127,
 a53:=Try.isAgg127,
 z53:=Try.sizeOf127,
 v53:=Try.zeroValue127,
 t55:=Try.underlying129,
 a55:=Try.isAgg129,
 z55:=Try.sizeOf129,
 v55:=Try.zeroValue129,
 t66:=Try.underlying141,
 a66:=Try.isAgg141,
 z66:=Try.sizeOf141,
 v66:=Try.zeroValue141,
 t70:=Try.underlying145,
 a70:=Try.isAgg145,
 z70:=Try.sizeOf145,
 v70:=Try.zeroValue145,
 t76:=Try.underlying148,
 a76:=Try.isAgg148,
 z76:=Try.sizeOf148,
 v76:=Try.zeroValue148,
 t77:=Try.underlying102,
 a77:=Try.isAgg102,
 z77:=Try.sizeOf102,
 v77:=Try.zeroValue102 }
def qpq:SV->Int
 | .int _ n=>n
 | _=>0
theorem jxn:∀ {xs ys:List C5},xs.flatMap C5.s=ys.flatMap C5.s->xs=ys
 | [],[],_=>rfl
 | [],y::ys,h=>by have:=congrArg List.length h;rw[jc9,jc9] at this;simp at this
 | x::xs,[],h=>by have:=congrArg List.length h;rw[jc9,jc9] at this;simp at this
 | x::xs,y::ys,h=>by
  rw[f19,f19] at h
  obtain⟨h1,h2⟩:=List.append_inj h (by rw[C5.s_len,C5.s_len])
  have h3:x.l=y.l:=by
   have:=congrArg (List.map qpq) h1
   simpa[C5.s,C5.l,qpq] using this
  rw[C5.inj h3,jxn h2]
def ji4 (sf od f:FuncId) (vs:List AV) (h h':Hp):Prop :=
 f=sf/\((vs=[.s .nilSlice,.s (.func od [])]/\h'=h)∨∃ b off mc ex,∃ xs:List C5,vs=[.s (.slice b off xs.length mc ex 5),.s (.func od [])]/\1<=xs.length/\xs.length<4611686018427387904/\rd h b off (xs.length*5)=some (xs.flatMap C5.s)/\wr h b off ((srt xs).flatMap C5.s)=some h')
theorem ji4.one {od:FuncId} {h1 h2:Hp} (k:ji4 sf od f vs h h1) (q:ji4 sf od f vs h h2):h1=h2:=by
 obtain⟨_,⟨rfl,rfl⟩ | ⟨b,off,mc,ex,xs,rfl,_,_,k1,k2⟩⟩:=k
 .obtain ⟨_,⟨_,rfl⟩ | ⟨b',off',mc',ex',ys,e,_⟩⟩:=q
  .rfl
  .simp at e
 .obtain ⟨_,⟨e,_⟩ | ⟨b',off',mc',ex',ys,e,_,_,q1,q2⟩⟩:=q
  .simp at e
  .simp only[List.cons.injEq,AV.s.injEq,SV.slice.injEq,and_true] at e
   obtain⟨rfl,rfl,e3,rfl,rfl⟩:=e
   rw[←e3,k1] at q1
   have:=jxn (Option.some.inj q1)
   subst this
   rw[k2] at q2
   exact Option.some.inj q2
open Classical in
noncomputable def SX (sf od:FuncId) (F:Fns):Fns:=.mk (j5i F) (fun f vs h=>if k:∃ h',ji4 sf od f vs h h' then some (.tup [],Classical.choose k) else jcp F f vs h)
theorem qpr {od:FuncId} {F:Fns} (hf:Nat.beq f sf=false):jcp (SX sf od F) f vs h=jcp F f vs h:=by
 show @dite _ _ (Classical.propDecidable _) _ _=_
 rw[dif_neg]
 rintro⟨h',rfl,_⟩
 rw[f2h] at hf;cases hf
theorem qe0 {od:FuncId} {F:Fns} {h':Hp} (k:ji4 sf od sf vs h h'):jcp (SX sf od F) sf vs h=some (.tup [],h'):=by
 show @dite _ _ (Classical.propDecidable _) _ _=_
 rw[dif_pos ⟨h',k⟩]
 rw[(Classical.choose_spec (p:=fun h'=>ji4 sf od sf vs h h') ⟨h',k⟩).one k]
noncomputable def qs9 (F:Fns) (n:Nat) (f:FuncId) (us:List AV) (u:AV):Bool:=Option.rec (motive:=fun _=>Bool) false (fun p=>eqA p.1 u) (jih F n f us h0)
theorem qlg {F:Fns} {us:List AV} {u:AV} (h:qs9 F n f us u=true):∃ hi,jih F n f us h0=some (u,hi):=by
 unfold qs9 at h
 cases hr:jih F n f us h0 with
 | none=>rw[hr] at h;cases h
 | some p =>
  rw[hr] at h
  obtain⟨v,hi⟩:=p
  obtain rfl:=j5n _ _ h
  exact⟨hi,rfl⟩
theorem j93 {P:Program} {A:Nat->Int} {T:Tr TI} {G:Fns} (env:Env P A T G) {hi:Hp} (hr:jih G n f vs h0=some (.tup [],hi)) {φ:Phi} {w:World} (rel:Rel A φ h w) (args:Array Value) (ha:All2 (cV A (qab φ.k)) vs args.toList) :
 Calls P f args w (fun e w'=>∃ rv φ',e=.returned rv/\Step (fun n=>h.lo<=n) φ φ' h h w w'/\Rel A φ' h w'/\cV A φ' (.tup []) rv):=by
 have hk:jqk φ.k w:=rel.con
 refine Calls.mono (jm3 env hr hk args ha) ?_
 rintro e w' ⟨rv,φi,rfl,s,r,us,rfl,hus⟩
 cases hus
 obtain⟨s',r'⟩:=rel.grows (W:=fun n=>h.lo<=n) s.os s.tape s.output s.size (fun b hb=>s.old b hb (fun n l h _=>h.elim))
 exact⟨_,φ,rfl,s',r',[],rfl,.nil⟩
theorem qlh:qs9 F0 4000 26 [.s .nilSlice,.s (.func 27 [])] (.tup [])=true:=by kernel_rfl
theorem qps {A:Nat->Int} {F:Fns} (env:Env Try.prog A tys F):Env Try.prog A tys (SX 26 27 F) where
 tys:=env.tys
 mix:=env.mix
 fn:=env.fn
 ext:=fun f vs h v h' hx=>by
  by_cases k:∃ h',ji4 26 27 f vs h h'
  .have e:jcp (SX 26 27 F) f vs h=some (.tup [],Classical.choose k):=by show @dite _ _ (Classical.propDecidable _) _ _=_;rw[dif_pos k]
   rw[e] at hx
   have q:=Classical.choose_spec k
   simp only[Option.some.injEq,Prod.mk.injEq] at hx
   obtain⟨rfl,rfl⟩:=hx
   generalize Classical.choose k=h' at q ⊢
   obtain⟨rfl,⟨rfl,rfl⟩ | ⟨b,off,mc,ex,xs,rfl,k1,k2,k3,k4⟩⟩:=q
   .refine ⟨⟨_,Try.func26,rfl,by kernel_rfl⟩,fun kw=>Abs.refl _ kw,fun φ w args rel ha=>?_⟩
    obtain⟨hi,hr⟩:=qlg qlh
    refine j93 (qts (A:=A)) hr rel args ?_
    obtain⟨l⟩:=args
    cases ha with
    | cons h1 h2=>cases h2 with
     | cons h3 h4=>cases h4 with
      | nil =>
       obtain⟨us,rfl,hus⟩:=h3
       cases hus
       exact .cons h1 (.cons ⟨[],rfl,.nil⟩ .nil)
   refine⟨⟨_,Try.func26,rfl,by kernel_rfl⟩,fun kw=>?_,fun φ w args rel ha=>?_⟩
   .obtain ⟨hlo,cs,ty,hg,_,rfl⟩:=jg8 k4
    exact(Abs.put kw (by rw[hg];rfl) _).mono (fun n e=>by subst e;exact hlo)
   .exact j4f (ρ:=qez) qpp Try.isAgg52 Try.sizeOf52 (od:=27) (enters_of Try.func27 (by kernel_rfl) rfl)
     (fun x y W=>qlc x.a x.b x.c x.d x.e y.a y.b y.c y.d y.e W (fun v hv=>by
      have h1:=x.ok v;have h2:=y.ok v
      simp only[f0h,f1f,or_false] at hv h1 h2
      rcases hv with e | e | e | e | e | e | e | e | e | e
      .exact h1 (.inl e)
      .exact h1 (.inr (.inl e))
      .exact h1 (.inr (.inr (.inl e)))
      .exact h1 (.inr (.inr (.inr (.inl e))))
      .exact h1 (.inr (.inr (.inr (.inr e))))
      .exact h2 (.inl e)
      .exact h2 (.inr (.inl e))
      .exact h2 (.inr (.inr (.inl e)))
      .exact h2 (.inr (.inr (.inr (.inl e))))
      .exact h2 (.inr (.inr (.inr (.inr e)))))) rel k1 k2 k3 k4 args ha
  .have e:jcp (SX 26 27 F) f vs h=jcp F f vs h:=by show @dite _ _ (Classical.propDecidable _) _ _=_;rw[dif_neg k]
   rw[e] at hx
   exact env.ext f vs h v h' hx
end Go.Proofs.Ytalbjjoppndjjaa.Ev
