/- Graphs of functions built of pieces: each is a row of forks and loops. No program in sight. -/
import Derived.Test.YtbogkjjoigfbjaaGb
namespace Go.Proofs.Ytbogkjjoigfbjaa.Ms
set_option linter.all false
variable {s:List Bool} {w:Ms}
def j82 (b:Blk):List Nat:=b.edges.map (·.block)
def grL (l:List Blk):List (List Nat):=l.map j82
theorem j58 (l:List Blk) (k:Nat) (x:Ins):grL (jak l k x)=grL l:=by
 unfold grL jak
 apply f12
 intro i
 rw[f1j,f1j,f0w]
 cases l[i]? with
 | none=>rfl
 | some b=>by_cases h:k=i<;>simp[h,j82]
theorem j2o (l:List Blk) (k to:Nat) (args:List Nat):grL (l.modify k (fun b=>{ b with edges:=b.edges++[(⟨to,args⟩:Edg)] }))=(grL l).modify k (·++[to]):=by
 unfold grL
 apply f12
 intro i
 rw[f1j,f0w,f0w,f1j]
 cases l[i]? with
 | none=>rfl
 | some b=>by_cases h:k=i<;>simp[h,j82]
theorem jms (w:Ms) (p:Pc):(jav w p).2.blocks=w.blocks/\(jav w p).2.cur=w.cur:=by
 have hd:∀ (flags uses d i:Nat) (x:Iw×Nat×Ms),(jfm p flags uses d i x).2.2.blocks=x.2.2.blocks/\(jfm p flags uses d i x).2.2.cur=x.2.2.cur:=by
  intro flags uses d
  induction d with
  | zero=>exact fun i x=>⟨rfl,rfl⟩
  | succ d ih =>
   intro i x
   have e:(jiy p flags uses i x).2.2.blocks=x.2.2.blocks/\(jiy p flags uses i x).2.2.cur=x.2.2.cur:=by
    unfold jiy;simp only;split<;>exact⟨rfl,rfl⟩
   exact⟨(ih (i+1) (jiy p flags uses i x)).1.trans e.1,(ih (i+1) (jiy p flags uses i x)).2.trans e.2⟩
 unfold jav
 exact hd _ _ _ _ _
theorem jhs (w:Ms) (p:Pc):grL (jcu w p).blocks=grL w.blocks/\(jcu w p).cur=w.cur:=by
 have h:=jms w p
 unfold jcu
 simp only[h.1,h.2]
 exact⟨j58 _ _ _,trivial⟩
theorem jea (w:Ms) (cls:Nat) (p:Pc):grL (jac w cls p).2.blocks=grL w.blocks/\(jac w cls p).2.cur=w.cur:=by
 unfold jac
 split
 .exact ⟨rfl,rfl⟩
 .exact jhs w _
theorem jj3 (w:Ms) (cs:List Nat):grL (jad w cs).blocks=grL w.blocks++[[]]:=by
 unfold grL jad;simp[j82]
theorem ji1 (w:Ms) (k to:Nat) (args:List Nat):grL (jan w k to args).blocks=(grL w.blocks).modify k (·++[to]):=j2o _ _ _ _
theorem j3u (p:Pc) (cls before e k:Nat) (lay:Bool) (w:Ms):grL (jmo p cls before e k lay w).2.blocks=(grL w.blocks).modify k (·++[e]):=by
 unfold jmo
 simp only
 rw[ji1,(jea _ _ _).1,(jea _ _ _).1]
 cases lay with
 | true=>simp only[if_true];rw[(jhs _ _).1]
 | false=>rfl
theorem jdv (l:List Blk):(grL l).length=l.length:=f1t _
theorem jj4 (w:Ms) (p:Pc):(jcu w p).blocks.length=w.blocks.length:=by rw[←jdv,(jhs w p).1,jdv]
theorem jmt (w:Ms) (cls:Nat) (p:Pc):(jac w cls p).2.blocks.length=w.blocks.length:=by rw[←jdv,(jea w cls p).1,jdv]
theorem jgx {α:Type} {l r:List α} {k:Nat} {f:α->α} (h:k<l.length):(l++r).modify k f=l.modify k f++r:=by
 apply f12
 intro i
 rw[f0w]
 rcases f0e i l.length with h1 | h1
 .rw [f0k h1,f0k (by rw[f0x];exact h1),f0w]
 .rw [f0p h1,f0p (by rw[f0x];exact h1),f0x]
  have:¬ k=i:=by omega
  cases r[i - l.length]?<;>simp[this]
theorem jcp {α:Type} {l r:List α} {k:Nat} {f:α->α}:(l++r).modify (l.length+k) f=l++r.modify k f:=by
 apply f12
 intro i
 rw[f0w]
 rcases f0e i l.length with h1 | h1
 .rw [f0k h1,f0k h1]
  have:¬ l.length+k=i:=by omega
  cases l[i]?<;>simp[this]
 .rw [f0p h1,f0p h1,f0w]
  by_cases h2:k=i - l.length
  .have:l.length+(i - l.length)=i:=by omega
   subst h2
   cases r[i - l.length]?<;>simp[this]
  .have:¬ l.length+k=i:=by omega
   cases r[i - l.length]?<;>simp[this,h2]
structure Gok (w:Ms) (s:List Bool):Prop where
 g:grL w.blocks=gS s
 cur:w.cur+1=w.blocks.length
theorem j0q (s:List Bool) (b:Bool):gS (s++[b])=j2n (gS s) b:=by unfold gS;rw[List.foldl_append];rfl
theorem Gok.fork (k:Gok w s) (p:Pc):Gok (jeu w p) (s++[false]):=by
 have hl:(gS s).length=w.blocks.length:=by rw[←k.g,jdv]
 have hc:=k.cur
 refine⟨?_,?_⟩
 .unfold jeu
  simp only[j3u,ji1,jj3,jj4,(jhs w p).1,(jhs w p).2,k.g]
  rw[j0q]
  unfold j2n
  simp only
  rw[hl]
  rw[f0u,f0u]
  have e1:w.cur=w.blocks.length - 1:=by omega
  rw[jgx (by omega),jgx (by rw[f0x];omega)]
  have e2:((gS s).modify w.cur (·++[w.blocks.length])).modify w.cur (·++[w.blocks.length+1])=(gS s).modify (w.blocks.length - 1) (·++[w.blocks.length,w.blocks.length+1]):=by
   rw[e1]
   apply f12
   intro i
   simp only[f0w]
   cases (gS s)[i]? with
   | none=>rfl
   | some x=>by_cases h:w.blocks.length - 1=i<;>simp[h]
  rw[e2]
  have hl2:((gS s).modify (w.blocks.length - 1) (·++[w.blocks.length,w.blocks.length+1])).length=w.blocks.length:=by rw[f0x];exact hl
  generalize (gS s).modify (w.blocks.length - 1) (·++[w.blocks.length,w.blocks.length+1])=g at *
  have e3:=jcp (l:=g) (r:=[[],[],[]]) (k:=0) (f:=(·++[w.blocks.length+2]))
  have e4:=jcp (l:=g) (r:=[[w.blocks.length+2],[],[]]) (k:=1) (f:=(·++[w.blocks.length+2]))
  rw[hl2] at e3 e4
  rw[f1g] at e3
  refine(congrArg (fun l=>List.modify l (w.blocks.length+1) (·++[w.blocks.length+2])) e3).trans ?_
  exact e4
 .have h:(jeu w p).blocks.length=w.blocks.length+3:=by
   rw[←jdv]
   unfold jeu
   simp only[j3u,ji1,jj3,(jhs w p).1,f0x,f0s,jdv,f08,f1l]
  rw[h]
  unfold jeu
  simp only[jj4]
theorem Gok.loop (k:Gok w s) (p:Pc):Gok (jfo w p) (s++[true]):=by
 have hl:(gS s).length=w.blocks.length:=by rw[←k.g,jdv]
 have hc:=k.cur
 have hb:∀ (u:Ms) (cs:List Nat),(jad u cs).blocks.length=u.blocks.length+1:=fun u cs=>by simp[jad]
 have he:∀ (u:Ms) (k to:Nat) (a:List Nat),(jan u k to a).blocks.length=u.blocks.length:=fun u k to a=>by simp[jan]
 have hbc:∀ (u:Ms) (cs:List Nat),(jad u cs).cur=u.cur:=fun u cs=>rfl
 refine⟨?_,?_⟩
 .unfold jfo
  simp only[ji1,(jea _ _ _).1,(jhs _ _).1,jj3,jmt,jj4,hb,he,hbc,(jea _ _ _).2,(jhs _ _).2,k.g]
  rw[j0q]
  unfold j2n
  simp only
  rw[hl]
  have e1:w.cur=w.blocks.length - 1:=by omega
  rw[jgx (l:=gS s) (r:=[[]]) (k:=w.cur) (by omega),e1]
  have hl2:((gS s).modify (w.blocks.length - 1) (·++[w.blocks.length])).length=w.blocks.length:=by rw[f0x];exact hl
  generalize (gS s).modify (w.blocks.length - 1) (·++[w.blocks.length])=g at *
  rw[f0u,f0u]
  have e3:=jcp (l:=g) (r:=[[],[],[]]) (k:=0) (f:=(·++[w.blocks.length+1]))
  have e4:=jcp (l:=g) (r:=[[w.blocks.length+1],[],[]]) (k:=0) (f:=(·++[w.blocks.length+1+1]))
  have e5:=jcp (l:=g) (r:=[[w.blocks.length+1,w.blocks.length+2],[],[]]) (k:=1) (f:=(·++[w.blocks.length]))
  rw[hl2] at e3 e4 e5
  rw[f1g] at e3 e4
  refine(congrArg (fun l=>List.modify (List.modify l w.blocks.length (·++[w.blocks.length+1+1])) (w.blocks.length+1) (·++[w.blocks.length])) e3).trans ?_
  refine(congrArg (fun l=>List.modify l (w.blocks.length+1) (·++[w.blocks.length])) e4).trans ?_
  exact e5
 .have h:(jfo w p).blocks.length=w.blocks.length+3:=by
   rw[←jdv]
   unfold jfo
   simp only[ji1,(jea _ _ _).1,(jhs _ _).1,jj3,f0x,f0s,jdv,f08,f1l]
  rw[h]
  unfold jfo
  simp only[ji1,jmt,jj4,hb,he]
end Go.Proofs.Ytbogkjjoigfbjaa.Ms
