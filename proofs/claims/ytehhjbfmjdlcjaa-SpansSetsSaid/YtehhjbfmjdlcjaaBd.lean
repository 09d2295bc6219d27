/- Code of functions as the interpreter has it prepared, cut at loops. -/
import Derived.Test.YtehhjbfmjdlcjaaOr
import Derived.Test.YtehhjbfmjdlcjaaVd
namespace Go.Proofs.Ytehhjbfmjdlcjaa.Ev
open Go Go.RowKit
set_option linter.all false
set_option maxRecDepth 100000
def qhq:IC:=qr [qQ 1 (.mv (.c (.s .nilSlice)))] (qr [qM 0,qP (.bin .add qa (qC 63)),qP (.bin .quo qa (qC 64)),qA (.mkslice 124 1 8 [.int .u64 0] qa qa),qT 1] .ret)
theorem qxe:T 40=some (.mk qhq 1 1 [(.tmp 1)]):=by kernel_rfl
def qhr:IC:=.draw [(qM 0,.none),(qM 1,.none),(qP (.bin .quo qa (qC 64)),.none),(qP (.ixs 1 qc qa),.none),(qL,.none),(qM 1,.none),(qP (.bin .rem qa (qC 64)),.none),(qP (.bin .shl (.c (.s (.int .u64 1))) qa),.none),(qP (.bin .or qd qa),.none),(qP (.ixs 1 (.l 8) (.l 6)),.none),(qA (.store 1 qa qb),.none)]
theorem qxf:T 61=some (.mk qhr 2 0 []):=by kernel_rfl
def j0v:IC:=qr [qQ 2 (.mv (.c (.s (.bool false))))] (qr [qM 0,qM 1,qP (.bin .quo qa (qC 64)),qP (.ixs 1 qc qa),qL,qM 1,qP (.bin .rem qa (qC 64)),qP (.bin .shr qc qa),qP (.bin .and qa (.c (.s (.int .u64 1)))),qP (.bin .eq qa (.c (.s (.int .u64 1)))),qT 2] .ret)
theorem qhs:T 43=some (.mk j0v 2 1 [(.tmp 2)]):=by kernel_rfl
def qht:IC:=.draw [(qM 0,.none),(qM 1,.none),(qP (.bin .quo qa (qC 64)),.none),(qP (.ixs 1 qc qa),.none),(qL,.none),(qM 1,.none),(qP (.bin .rem qa (qC 64)),.none),(qP (.bin .shl (.c (.s (.int .u64 1))) qa),.none),(qP (.bin .andNot qd qa),.none),(qP (.ixs 1 (.l 8) (.l 6)),.none),(qA (.store 1 qa qb),.none)]
theorem qxg:T 65=some (.mk qht 2 0 []):=by kernel_rfl
def j3p:IC:=.seq (.block 1 (qr [qM 8,qT 5] (.seq (.draw [(qM 1,.none),(qM 5,.none),(qP (.ixs 1 qb qa),.none),(qL,.some []),(qM 0,.none),(qM 5,.none),(qP (.ixs 1 qb qa),.none),(qL,.some [3]),(qP (.bin .andNot (.l 4) qa),.none),(qQ 4 (.bin .ne qa (.c (.s (.int .u64 0)))),.none)]) (.cond (.g 4) (.seq (.draw [(qM 0,.none),(qM 5,.none),(qP (.ixs 1 qb qa),.none),(qL,.some []),(qM 1,.none),(qM 5,.none),(qP (.ixs 1 qb qa),.none),(qL,.some [3]),(qP (.bin .or (.l 4) qa),.none),(qP (.ixs 1 (.l 8) (.l 7)),.none),(qA (.store 1 qa qb),.none)]) (.region [qQ 3 (.mv (.c (.s (.bool true))))])) .skip)))) (.region [qI 8,qT 8])
def jnm:IC:=qr [qQ 6 (.bin .lt (.g 8) (.g 7))] (.seq (qX 6 0) j3p)
def qan:IC:=qr [qQ 2 (.mv (.c (.s (.bool false))))] (qr [qQ 3 (.mv (.c (.s (.bool false))))] (.seq (qr [qM 0,qQ 7 (.len qa),qQ 8 (.mv (qC 0))] (.block 0 (.loop jnm))) (qr [qM 3,qT 2] .ret)))
theorem qsq:T 62=some (.mk qan 2 7 [(.tmp 2)]):=by kernel_rfl
def j3q:IC:=.seq (.block 1 (qr [qM 8,qT 5] (qr [qM 0,qM 5,qB 4 (.call 43 [qb,qa])] (.cond (.g 4) (.region [qM 3,qM 5,qA (.bslice 3 1 [.int .i64 0] 1 [(0,(1,qa))]),qA (.app 3 1 8 qc qa),qT 3]) .skip)))) (.region [qI 8,qT 8])
def jnn:IC:=qr [qQ 6 (.bin .lt (.g 8) (.g 7))] (.seq (qX 6 0) j3q)
def qao:IC:=qr [qQ 2 (.mv (.c (.s .nilSlice)))] (qr [qQ 3 (.mv (.c (.s .nilSlice)))] (.seq (qr [qQ 7 (.mv (.g 1)),qQ 8 (.mv (qC 0))] (.block 0 (.loop jnn))) (qr [qM 3,qT 2] .ret)))
theorem qsr:T 27=some (.mk qao 2 7 [(.tmp 2)]):=by kernel_rfl
def qap:IC:=qr [qA (.bslice 124 1 [] 0 []),qM 0,qA (.app 124 1 8 qb qa),qT 1] .ret
def qhu:IC:=qr [qQ 1 (.mv (.c (.s .nilSlice)))] (.seq (qr [qM 0,qQ 2 (.snil false qa (.c (.s .nilSlice)))] (.cond (.g 2) (qr [qQ 1 (.mv (.c (.s .nilSlice)))] .ret) .skip)) qap)
theorem qxh:T 63=some (.mk qhu 1 2 [(.tmp 1)]):=by kernel_rfl
def qaq:IC:=.seq (.block 1 (qr [qP (.ixs 1 (.g 16) (.g 19)),qL,qT 14] (.region [qM 15,qM 14,qA (.call 61 [qb,qa])]))) (.region [qI 19,qT 19])
def ju8:IC:=qr [qQ 17 (.bin .lt (.g 19) (.g 18))] (.seq (qX 17 0) qaq)
def qar:IC:=.seq (.block 5 (qr [qP (.ixs 5 (.g 5) (.g 8)),qK 5,qB 4 (.new 48 [.int .i64 0,.int .i64 0,.bool false,.int .i64 0,.int .i64 0]),qA (.store 5 qa qb)] (qr [qF 0 4,qL,qQ 3 (.bin .eq qa (qC 2))] (.cond (.g 3) (.region [qM 15,qF 1 4,qL,qA (.call 61 [qc,qa])]) .skip)))) (.region [qI 8,qT 8])
def ju9:IC:=qr [qQ 6 (.bin .lt (.g 8) (.g 7))] (.seq (qX 6 4) qar)
def qas:IC:=.seq (.block 3 (qr [qP (.ixs 3 (.g 10) (.g 13)),qK 3,qB 9 (.new 46 [.int .i64 0,.nilSlice,.nilSlice]),qA (.store 3 qa qb)] (qr [qF 1 9,qB 5 (.load 1 false qa),qQ 7 (.len qa),qQ 8 (.mv (qC 0))] (.block 4 (.loop ju9))))) (.region [qI 13,qT 13])
def jva:IC:=qr [qQ 11 (.bin .lt (.g 13) (.g 12))] (.seq (qX 11 2) qas)
def qhv:IC:=qr [qB 21 (.box 30 (.g 0)),qB 20 (.box 42 (.g 1)),qQ 2 (.mv (.c (.s .nilSlice)))] (qr [qF 0 21,qL,qP (.len qa),qA (.call 40 [qa]),qT 15] (.seq (qr [qF 0 20,qB 16 (.load 1 false qa),qQ 18 (.len qa),qQ 19 (.mv (qC 0))] (.block 0 (.loop ju8))) (.seq (qr [qF 1 20,qB 10 (.load 1 false qa),qQ 12 (.len qa),qQ 13 (.mv (qC 0))] (.block 2 (.loop jva))) (qr [qM 15,qT 2] .ret))))
theorem qxi:T 64=some (.mk qhv 2 20 [(.tmp 2)]):=by kernel_rfl
def qat:IC:=.seq (.block 3 (qr [qP (.ixs 1 (.g 21) (.g 24)),qL,qT 20] (.region [qM 0,qN,qG 3,qL,qM 1,qP (.ixs 1 qb qa),qL,qM 20,qA (.call 61 [qb,qa])]))) (.region [qI 24,qT 24])
def jvb:IC:=qr [qQ 22 (.bin .lt (.g 24) (.g 23))] (.seq (qX 22 2) qat)
def qau:IC:=.seq (.block 1 (qr [qP (.ixs 2 (.g 26) (.g 29)),qK 2,qB 25 (.new 56 [.int .i64 0,.nilSlice]),qA (.store 2 qa qb)] (.seq (qr [qF 1 25,qB 21 (.load 1 false qa),qQ 23 (.len qa),qQ 24 (.mv (qC 0))] (.block 2 (.loop jvb))) (.draw [(qM 0,.none),(qN,.none),(qG 3,.none),(qL,.some []),(qM 1,.none),(qP (.ixs 1 qb qa),.none),(qL,.some []),(qM 0,.none),(qN,.none),(qG 2,.none),(qL,.some [3,6]),(qF 0 25,.none),(qL,.some [1,5,8]),(qP (.ixs 1 qc qa),.none),(qL,.some [7,10]),(qA (.call 62 [.l 8,qa]),.none)])))) (.region [qI 29,qT 29])
def jvc:IC:=qr [qQ 27 (.bin .lt (.g 29) (.g 28))] (.seq (qX 27 0) qau)
def qav:IC:=.seq (.block 7 (qr [qP (.ixs 5 (.g 11) (.g 14)),qK 5,qB 10 (.new 48 [.int .i64 0,.int .i64 0,.bool false,.int .i64 0,.int .i64 0]),qA (.store 5 qa qb)] (qr [qF 0 10,qL,qQ 9 (.bin .eq qa (qC 1))] (.cond (.g 9) (.region [qM 8,qF 1 10,qL,qA (.call 61 [qc,qa])]) .skip)))) (.region [qI 14,qT 14])
def jvd:IC:=qr [qQ 12 (.bin .lt (.g 14) (.g 13))] (.seq (qX 12 6) qav)
def qaw:IC:=.seq (.block 5 (qr [qP (.ixs 3 (.g 16) (.g 19)),qK 3,qB 15 (.new 46 [.int .i64 0,.nilSlice,.nilSlice]),qA (.store 3 qa qb)] (qr [qF 1 15,qB 11 (.load 1 false qa),qQ 13 (.len qa),qQ 14 (.mv (qC 0))] (.block 6 (.loop jvd))))) (.region [qI 19,qT 19])
def jve:IC:=qr [qQ 17 (.bin .lt (.g 19) (.g 18))] (.seq (qX 17 4) qaw)
def qax:IC:=.seq (.block 9 (qr [qP (.ixs 1 (.g 4) (.g 7)),qL,qT 3] (.region [qM 8,qM 3,qA (.call 65 [qb,qa])]))) (.region [qI 7,qT 7])
def jvf:IC:=qr [qQ 5 (.bin .lt (.g 7) (.g 6))] (.seq (qX 5 8) qax)
def qhw:IC:=qr [qQ 2 (.mv (.c (.s (.bool false))))] (qr [qM 0,qN,qG 0,qG 1,qL,qM 1,qP (.ixs 3 qb qa),qK 3,qB 30 (.new 42 [.nilSlice,.nilSlice,.nilSlice]),qA (.store 3 qa qb)] (.seq (qr [qF 2 30,qB 26 (.load 1 false qa),qQ 28 (.len qa),qQ 29 (.mv (qC 0))] (.block 0 (.loop jvc))) (qr [qM 0,qN,qG 3,qL,qM 1,qP (.ixs 1 qb qa),qL,qA (.call 63 [qa]),qT 8] (.seq (qr [qF 1 30,qB 16 (.load 1 false qa),qQ 18 (.len qa),qQ 19 (.mv (qC 0))] (.block 4 (.loop jve))) (.seq (.seq (.draw [(qM 0,.none),(qN,.none),(qG 0,.none),(qK 2,.some []),(qA (.load 3 true (.g 30)),.some [0]),(qA (.call 64 [qb,qa]),.some []),(qM 0,.none),(qN,.none),(qG 0,.none),(qG 0,.none),(qL,.some [4,5,6]),(qP (.len qa),.none),(qB 4 (.call 27 [.l 6,qa]),.none),(qQ 6 (.len qa),.none),(qQ 7 (.mv (qC 0)),.none)]) (.block 8 (.loop jvf))) (qr [qM 0,qN,qG 2,qL,qM 1,qP (.ixs 1 qb qa),qL,qM 8,qA (.call 62 [qb,qa]),qT 2] .ret))))))
theorem qxj:T 42=some (.mk qhw 2 29 [(.tmp 2)]):=by kernel_rfl
end Go.Proofs.Ytehhjbfmjdlcjaa.Ev
namespace Go.Proofs.Ytehhjbfmjdlcjaa.Ms
set_option linter.all false
variable {c ws:List Nat} {a i v x:Nat}
def jbn (ws:List Nat) (v:Nat):Bool:=(ws.getD (v / 64) 0).testBit (v % 64)
def jsb (ws:List Nat) (v:Nat):List Nat:=ws.set (v / 64) (ws.getD (v / 64) 0 ||| 2 ^ (v % 64))
def jv8 (a b:Nat):Nat:=a ^^^ (a &&& b)
def jx1 (ws:List Nat) (v:Nat):List Nat:=ws.set (v / 64) (jv8 (ws.getD (v / 64) 0) (2 ^ (v % 64)))
def jsc (b c:List Nat):List Nat:=List.zipWith (· ||| ·) b c
def j0w (b c:List Nat):Bool:=(List.range b.length).any (fun i=>decide (jv8 (c.getD i 0) (b.getD i 0)≠0))
def jbo (ws:List Nat) (n:Nat):List Nat:=(List.range n).filter (jbn ws)
def WOk (W:Nat) (ws:List Nat):Prop:=ws.length=W/\∀ w∈ws,w<2 ^ 64
theorem jx2 {j:Nat} (hi:i<ws.length):(ws.set i x).getD j 0=if i=j then x else ws.getD j 0:=by
 simp only[f0c,f1s]
 by_cases e:i=j
 .subst e;simp[hi]
 .simp [e]
theorem jff {W:Nat} (h:WOk W ws) (i:Nat):ws.getD i 0<2 ^ 64:=by
 rw[f0c]
 cases e:ws[i]? with
 | none=>exact Nat.two_pow_pos 64
 | some w=>exact h.2 w (f0b e)
theorem jno (a b j:Nat):(jv8 a b).testBit j=(a.testBit j && !b.testBit j):=by
 unfold jv8
 rw[Nat.testBit_xor,Nat.testBit_and]
 cases a.testBit j<;>cases b.testBit j<;>rfl
theorem qay {b:Nat} (h:a<2 ^ 64):jv8 a b<2 ^ 64:=Nat.xor_lt_two_pow h (Nat.lt_of_le_of_lt Nat.and_le_left h)
theorem WOk.set {W:Nat} (h:WOk W ws) (hx:x<2 ^ 64):WOk W (ws.set i x) :=
 ⟨by rw[f1u];exact h.1,fun w hw=>by
  rcases f2x hw with h1 | rfl
  .exact h.2 w h1
  .exact hx⟩
theorem jvg (v:Nat):2 ^ (v % 64)<2 ^ 64:=Nat.pow_lt_pow_right (by omega) (Nat.mod_lt _ (by omega))
theorem WOk.put {W:Nat} (h:WOk W ws) (v:Nat):WOk W (jsb ws v):=h.set (f3h (jff h _) (jvg v))
theorem WOk.drop {W:Nat} (h:WOk W ws) (v:Nat):WOk W (jx1 ws v):=h.set (qay (jff h _))
theorem WOk.add {W:Nat} {b:List Nat} (h:WOk W b) (h':WOk W c):WOk W (jsc b c):=by
 refine⟨by unfold jsc;rw[List.length_zipWith,h.1,h'.1,Nat.min_self],fun w hw=>?_⟩
 unfold jsc at hw
 rw[←List.map_uncurry_zip_eq_zipWith] at hw
 obtain⟨⟨x,y⟩,hm,rfl⟩:=f1a.1 hw
 have:=List.of_mem_zip hm
 exact f3h (h.2 x this.1) (h'.2 y this.2)
theorem qe7 (hv:v / 64<ws.length) (u:Nat):jbn (jsb ws v) u=(jbn ws u||decide (u=v)):=by
 unfold jbn jsb
 rw[jx2 hv]
 by_cases e:v / 64=u / 64
 .rw [if_pos e,Nat.testBit_or,Nat.testBit_two_pow,e]
  congr 1
  by_cases e2:v % 64=u % 64
  .rw [decide_eq_true e2,decide_eq_true (by omega)]
  .rw [decide_eq_false e2,decide_eq_false (by omega)]
 .rw [if_neg e,decide_eq_false (by omega),Bool.or_false]
theorem qaz (hv:v / 64<ws.length) (u:Nat):jbn (jx1 ws v) u=(jbn ws u && !decide (u=v)):=by
 unfold jbn jx1
 rw[jx2 hv]
 by_cases e:v / 64=u / 64
 .rw [if_pos e,jno,Nat.testBit_two_pow,e]
  congr 2
  by_cases e2:v % 64=u % 64
  .rw [decide_eq_true e2,decide_eq_true (by omega)]
  .rw [decide_eq_false e2,decide_eq_false (by omega)]
 .rw [if_neg e,decide_eq_false (by omega)]
  simp
theorem qe8 {b:List Nat} (hl:b.length=c.length) (i:Nat):(jsc b c).getD i 0=b.getD i 0 ||| c.getD i 0:=by
 unfold jsc
 simp only[f0c,List.getElem?_zipWith]
 rcases f0i i b.length with h | h
 .rw [f0a h,f0a (by omega)]
  rfl
 .rw [f0j h,f0j (by omega)]
  rfl
theorem jvh {b:List Nat} (hl:b.length=c.length) (u:Nat):jbn (jsc b c) u=(jbn b u||jbn c u):=by
 unfold jbn
 rw[qe8 hl,Nat.testBit_or]
theorem jx3 {b:Nat} (h:jv8 a b=0):b ||| a=b:=by
 apply Nat.eq_of_testBit_eq
 intro j
 have h1:=jno a b j
 rw[h,Nat.zero_testBit] at h1
 rw[Nat.testBit_or]
 cases ha:a.testBit j<;>cases hb:b.testBit j<;>simp_all
theorem j5x {b:List Nat} (hl:b.length=c.length) (h:j0w b c=false):jsc b c=b/\∀ u,jbn c u=true->jbn b u=true:=by
 have h0:∀ i,jv8 (c.getD i 0) (b.getD i 0)=0:=fun i=>by
  rcases f0i i b.length with hi | hi
  .unfold j0w at h
   rw[List.any_eq_false] at h
   have:=h i (f2b.2 hi)
   simpa using this
  .rw [f0c,f0c,f0j (by omega),f0j hi]
   rfl
 refine⟨?_,fun u hu=>?_⟩
 .apply f1k
  intro i
  unfold jsc
  rw[List.getElem?_zipWith]
  rcases f0i i b.length with hi | hi
  .have h1:=h0 i
   rw[f0c,f0c] at h1
   rw[f0a hi,f0a (by omega)] at h1 ⊢
   exact congrArg some (jx3 h1)
  .rw [f0j hi,f0j (by omega)]
 .unfold jbn at hu ⊢
  have h1:=jno (c.getD (u / 64) 0) (b.getD (u / 64) 0) (u % 64)
  rw[h0,Nat.zero_testBit,hu] at h1
  cases hb:(b.getD (u / 64) 0).testBit (u % 64)<;>simp_all
theorem qa0 {W:Nat} {b:List Nat} (hb:WOk W b) (hc:WOk W c) (h:j0w b c=true):∃ u,u<64*W/\jbn c u=true/\jbn b u=false:=by
 unfold j0w at h
 rw[f3x] at h
 obtain⟨i,hi,h1⟩:=h
 rw[f2b,hb.1] at hi
 have h2:jv8 (c.getD i 0) (b.getD i 0)≠0:=by simpa using h1
 obtain⟨j,hj⟩:=Nat.exists_testBit_of_ne_zero h2
 have hj64:j<64:=by
  rcases f0i j 64 with h3 | h3
  .exact h3
  .have h4:=qay (b:=b.getD i 0) (jff hc i)
   rw[Nat.testBit_lt_two_pow (f0n h4 (Nat.pow_le_pow_right (by omega) h3))] at hj
   cases hj
 rw[jno,f04,f11] at hj
 refine⟨64*i+j,by omega,?_,?_⟩
 .unfold jbn
  rw[show(64*i+j) / 64=i by omega,show(64*i+j) % 64=j by omega]
  exact hj.1
 .unfold jbn
  rw[show(64*i+j) / 64=i by omega,show(64*i+j) % 64=j by omega]
  exact hj.2
theorem WOk.puts {W:Nat}:∀ (l:List Nat) {ws:List Nat},WOk W ws->WOk W (l.foldl jsb ws)
 | [],_,h=>h
 | v::l,ws,h=>WOk.puts l (h.put v)
theorem WOk.drops {W:Nat}:∀ (l:List Nat) {ws:List Nat},WOk W ws->WOk W (l.foldl jx1 ws)
 | [],_,h=>h
 | v::l,ws,h=>WOk.drops l (h.drop v)
theorem jkj {W:Nat}:∀ (l:List Nat) {ws:List Nat},WOk W ws->(∀ v∈l,v / 64<W)->∀ u,jbn (l.foldl jsb ws) u=(jbn ws u||decide (u∈l))
 | [],ws,_,_,u=>by simp
 | v::l,ws,h,hl,u=>by
  rw[f1o,jkj l (h.put v) (fun v hv=>hl v (by simp[hv])),qe7 (by rw[h.1];exact hl v (by simp))]
  by_cases e:u=v<;>by_cases e2:u∈l<;>simp[e,e2]
theorem jsd {W:Nat}:∀ (l:List Nat) {ws:List Nat},WOk W ws->(∀ v∈l,v / 64<W)->∀ u,jbn (l.foldl jx1 ws) u=(jbn ws u && !decide (u∈l))
 | [],ws,_,_,u=>by simp
 | v::l,ws,h,hl,u=>by
  rw[f1o,jsd l (h.drop v) (fun v hv=>hl v (by simp[hv])),qaz (by rw[h.1];exact hl v (by simp))]
  by_cases e:u=v<;>by_cases e2:u∈l<;>simp[e,e2]
def jgy (W:Nat):List Nat:=List.replicate W 0
theorem jqd (W:Nat):WOk W (jgy W):=⟨by simp[jgy],fun w hw=>by rw[(List.mem_replicate.1 hw).2];exact Nat.two_pow_pos 64⟩
theorem jqe (W u:Nat):jbn (jgy W) u=false:=by
 unfold jbn jgy
 rw[f0c,f2m]
 split<;>simp
def jx4 (x:Ins):List Nat:=(x.ops.filter (fun o=>decide (o.kind=1))).map (·.value)
def j3r (b:Blk):List Nat:=(b.instrs.map jx4).flatten
def qqo (ins:List (List Nat)) (o:List Nat) (e:Edg):List Nat:=jsc (e.args.foldl jsb o) (ins.getD e.block [])
def jmb (ins:List (List Nat)) (b:Blk) (o:List Nat):List Nat:=b.edges.foldl (qqo ins) o
def jih (W:Nat) (b:Blk):List Nat:=(jck b).foldl jsb (jgy W)
def qe9 (W n:Nat) (b:Blk) (o:List Nat):List Nat:=(jbo (jih W b) n).foldl jx1 ((j3r b).foldl jsb o)
structure LvB (n nb:Nat) (b:Blk):Prop where
 made:∀ v∈jck b,v<n
 use:∀ v∈j3r b,v<n
 args:∀ e∈b.edges,∀ v∈e.args,v<n
 to:∀ e∈b.edges,e.block<nb
theorem qfa {n W:Nat} (hW:n<=64*W) (hv:v<n):v / 64<W:=by omega
section
variable {n W nb:Nat} {b:Blk} {ins:List (List Nat)}
theorem j0x (hi:ins.length=nb) (hw:∀ x∈ins,WOk W x) {k:Nat} (hk:k<nb):WOk W (ins.getD k []):=by
 rw[f0c,f0a (by omega)]
 exact hw _ (f23 _)
theorem j3s (hi:ins.length=nb) (hw:∀ x∈ins,WOk W x) (hW:n<=64*W):∀ (l:List Edg) {o:List Nat},(∀ e∈l,e.block<nb)->(∀ e∈l,∀ v∈e.args,v<n)->WOk W o ->
 WOk W (l.foldl (qqo ins) o)/\∀ u,jbn (l.foldl (qqo ins) o) u=true↔(jbn o u=true∨∃ e∈l,u∈e.args∨jbn (ins.getD e.block []) u=true)
 | [],o,_,_,h=>⟨h,fun u=>by simp⟩
 | e::l,o,h1,h2,h=>by
  have hp:=WOk.puts e.args h
  have hin:=j0x hi hw (h1 e (by simp))
  obtain⟨h3,h4⟩:=j3s hi hw hW l (o:=qqo ins o e) (fun e he=>h1 e (by simp[he])) (fun e he=>h2 e (by simp[he])) (hp.add hin)
  refine⟨h3,fun u=>?_⟩
  rw[f1o,h4 u]
  unfold qqo
  rw[jvh (by rw[hp.1,hin.1]),jkj e.args h (fun v hv=>qfa hW (h2 e (by simp) v hv))]
  simp only[f1z,decide_eq_true_eq,f0e,exists_eq_or_imp]
  constructor
  .rintro ((h | h) | h)
   .rcases h with h | h
    .exact .inl h
    .exact .inr (.inl (.inl h))
   .exact .inr (.inl (.inr h))
   .exact .inr (.inr h)
  .rintro (h | (h | h) | h)
   .exact .inl (.inl (.inl h))
   .exact .inl (.inl (.inr h))
   .exact .inl (.inr h)
   .exact .inr h
theorem qfb (lv:LvB n nb b) (hW:n<=64*W) (u:Nat):jbn (jih W b) u=true↔u∈jck b:=by
 unfold jih
 rw[jkj _ (jqd W) (fun v hv=>qfa hW (lv.made v hv)),jqe]
 simp
theorem qlz (lv:LvB n nb b) (hW:n<=64*W) {o:List Nat} (h:WOk W o):WOk W (qe9 W n b o)/\∀ u,jbn (qe9 W n b o) u=true↔((jbn o u=true∨u∈j3r b)/\u∉jck b):=by
 have hp:=WOk.puts (j3r b) h
 refine⟨WOk.drops _ hp,fun u=>?_⟩
 unfold qe9
 have hl:∀ v∈jbo (jih W b) n,v / 64<W:=fun v hv=>by
  have:=(f1t.1 hv).1
  exact qfa hW (f2b.1 this)
 rw[jsd _ hp hl,jkj _ h (fun v hv=>qfa hW (lv.use v hv))]
 simp only[f04,f1z,decide_eq_true_eq,f11,decide_eq_false_iff_not]
 have:u∈jbo (jih W b) n↔u∈jck b:=by
  unfold jbo
  rw[f1t,f2b,qfb lv hW]
  exact⟨fun h=>h.2,fun h=>⟨lv.made u h,h⟩⟩
 rw[this]
end
end Go.Proofs.Ytehhjbfmjdlcjaa.Ms
namespace Go.Proofs.Ytehhjbfmjdlcjaa.Ev
open Go Go.RowKit Go.Proofs.Ytehhjbfmjdlcjaa.Ms
attribute [local go_sem] Int.reduceToNat reduceCtorEq Nat.reduceAdd Nat.reduceMul Nat.reduceEqDiff Int.reduceEq Int.reduceLT Int.reduceLE Int.reduceNeg Int.reduceAdd Int.reduceSub Int.reduceMul Int.reduceNe
attribute [local go_sem ↓] reduceIte
set_option linter.all false
set_option maxRecDepth 100000
set_option maxHeartbeats 4000000
variable {x0 x1 x2 x3 x4 x5 x6 x7 x8 x9 x10 x11 x12 x13 x14 x15 x16 x17 x18 x19 x20 x21 x22 x23 x24 x25 x26 x27 x28 x29 x30:AV} {neg:Bool} {Q:Ex->St->Prop} {j v cb cc:Nat} {y:SV}
abbrev vu (n:Nat):AV:=.s (.int .u64 (n:Int))
def jm1 (n:Nat):List SV:=[.int .u64 (n:Int)]
theorem jqf {n:Nat} (h:n<2 ^ 64):inR .u64 (.ofNat n)=true:=f20 (by omega)
section
variable {a b:Nat}
theorem j3t (ha:a<2 ^ 64) (hb:b<2 ^ 64):jcw .or (.int .u64 (a:Int)) (.int .u64 (b:Int))=some (vu (a ||| b)):=by
 show oif (inR .u64 (.ofNat a)) (oif (inR .u64 (.ofNat b)) (some (AV.s (.int .u64 (.ofNat (Nat.lor a b))))) none) none=_
 rw[jqf ha,jqf hb]
 rfl
theorem jx5 (ha:a<2 ^ 64) (hb:b<2 ^ 64):jcw .and (.int .u64 (a:Int)) (.int .u64 (b:Int))=some (vu (a &&& b)):=by
 show oif (inR .u64 (.ofNat a)) (oif (inR .u64 (.ofNat b)) (some (AV.s (.int .u64 (.ofNat (Nat.land a b))))) none) none=_
 rw[jqf ha,jqf hb]
 rfl
theorem jx6 (ha:a<2 ^ 64) (hb:b<2 ^ 64):jcw .andNot (.int .u64 (a:Int)) (.int .u64 (b:Int))=some (vu (jv8 a b)):=by
 show oif (inR .u64 (.ofNat a)) (oif (inR .u64 (.ofNat b)) (some (AV.s (.int .u64 (.ofNat (Nat.xor a (Nat.land a b)))))) none) none=_
 rw[jqf ha,jqf hb]
 rfl
theorem jx7 (hb:b<64):jcw .shl (.int .u64 1) (.int .i64 (b:Int))=some (vu (2 ^ b)):=by
 have hs:jyy .u64 b=true:=by
  have hI:qdd .u64=true:=rfl
  unfold jyy
  simp[jaz,jqx,hI,show b<=63 by omega]
 show oif (jyy .u64 b) (j4l .u64 (Int.ofNat (Nat.mul 1 (Nat.pow 2 b)))) none=_
 rw[hs]
 have e:Nat.mul 1 (Nat.pow 2 b)=2 ^ b:=Nat.one_mul _
 show oif (inR .u64 (.ofNat (Nat.mul 1 (Nat.pow 2 b)))) (some (AV.s (.int .u64 (.ofNat (Nat.mul 1 (Nat.pow 2 b)))))) none=_
 rw[e,jqf (Nat.pow_lt_pow_right (by omega) hb)]
 rfl
theorem jx8 (hb:b<64):jcw .shr (.int .u64 (a:Int)) (.int .i64 (b:Int))=some (vu (a / 2 ^ b)):=by
 have hs:jyy .u64 b=true:=by
  have hI:qdd .u64=true:=rfl
  unfold jyy
  simp[jaz,jqx,hI,show b<=63 by omega]
 show oif (jyy .u64 b) (some (AV.s (.int .u64 (Int.ofNat (Nat.div a (Nat.pow 2 b)))))) none=_
 rw[hs]
 rfl
theorem j3u:jcw .eq (.int .u64 (a:Int)) (.int .u64 (b:Int))=some (vb (decide (a=b))):=by
 show some (AV.s (.bool (ieq (a:Int) (b:Int))))=_
 rw[jcq]
 congr 3
 by_cases h:a=b
 .simp [h]
 .rw [decide_eq_false (by omega),decide_eq_false h]
theorem qfc:jcw .ne (.int .u64 (a:Int)) (.int .u64 (b:Int))=some (vb (decide (a≠b))):=by
 show some (AV.s (.bool (ji9 (ieq (a:Int) (b:Int)))))=_
 rw[jcq,jgp]
 congr 3
 by_cases h:a=b
 .simp [h]
 .rw [decide_eq_false (show ¬(a:Int)=(b:Int) by omega)];simp[h,ji9]
end
theorem jse:∀ ws:List Nat,(ws.map jm1).flatten=ws.map (fun v:Nat=>SV.int .u64 (v:Int))
 | []=>rfl
 | v::vs=>by rw[f2u,f1j,jse vs];rfl
theorem rdW {ws:List Nat} {i:Nat} (hi:i<ws.length) {ty:TypeId}:rdB (some (.arr (ws.map jm1).flatten ty)) i 1=some [.int .u64 ((ws.getD i 0:Nat):Int)]:=by
 apply jr7
 rw[jse,f0p,f0c,f0a hi]
 rfl
theorem wrW {ws:List Nat} {i:Nat} (hi:i<ws.length) (n:Nat):jbk i [.int .u64 (n:Int)] (ws.map jm1).flatten=some ((ws.set i n).map jm1).flatten:=by
 refine(jcy _).2 ⟨?_,?_⟩
 .rw [jse];simp;omega
 .rw [jse,jse,List.map_set]
  rw[List.set_eq_take_append_cons_drop,if_pos (by simpa using hi)]
  simp
structure BW (h:Hp) (x:SV) (W:Nat) (ws:List Nat) (c:Nat):Prop where
 ex:∃ ex,x=.slice c 0 W W ex 1
 wo:WOk W ws
 xc:h.get c=some (.arr (ws.map jm1).flatten 124)
 c1:1<=c
theorem BW.keep {h h':Hp} {x:SV} {W c:Nat} {ws:List Nat} (k:BW h x W ws c) (g:h'.get c=h.get c):BW h' x W ws c:=⟨k.ex,k.wo,g.trans k.xc,k.c1⟩
theorem BW.len {h:Hp} {x:SV} {W c:Nat} {ws:List Nat} (k:BW h x W ws c):jyw (.s x)=some (vi W):=by
 obtain⟨ex,rfl⟩:=k.ex
 rfl
theorem BW.ix {h:Hp} {x:SV} {W c:Nat} {ws:List Nat} (k:BW h x W ws c) {i:Nat} (hi:i<W):jyx 1 (.s x) (vi (i:Int))=some (.s (.ptr c i)):=by
 obtain⟨ex,rfl⟩:=k.ex
 exact jhq hi
section
variable {F:Fns} {h:Hp} {x:SV} {W c:Nat} {ws:List Nat}
theorem qfd (h:v<=100000):jcw .quo (.int .i64 (v:Int)) (.int .i64 64)=some (vi ((v / 64:Nat):Int)):=by
 rw[je8 (by omega) (by omega) (by omega)];rfl
theorem qfe (h:v<=100000):jcw .rem (.int .i64 (v:Int)) (.int .i64 64)=some (vi ((v % 64:Nat):Int)):=by
 rw[jd8 (by omega) (by omega) (by omega)];rfl
theorem jvi (ok:Ok h) (k:BW h x W ws c) (hv:v / 64<W) (hv2:v<=100000) (hX:jb9 F 61 [.s x,vi v] h=none) (hT:jqt F 61=T 61) :
 WC F 61 [.s x,vi v] h (fun _ h'=>Ok h'/\h'.next=h.next/\BW h' x W (jsb ws v) c/\∀ n,n≠c->h'.get n=h.get n):=by
 refine ja3 hX (hT.trans qxf) rfl ?_
 unfold qhr
 have hx:=k.ix hv
 have xc:=k.xc
 have hl:=k.wo.1
 have hr:=rdW (ws:=ws) (i:=v / 64) (by omega) (ty:=124)
 have hw:=wrW (ws:=ws) (i:=v / 64) (by omega) (ws.getD (v / 64) 0 ||| 2 ^ (v % 64))
 have ho:=j3t (jff k.wo (v / 64)) (jvg v)
 have hs:=jx7 (b:=v % 64) (by omega)
 obtain⟨hC,eC,okC,nC,xC,gC⟩:=jq7 ok k.c1 (some (.arr ((ws.set (v / 64) (ws.getD (v / 64) 0 ||| 2 ^ (v % 64))).map jm1).flatten 124))
 simp(disch:=first|omega|rfl) only[go_sem,qfd hv2,qfe hv2,hx,xc,hr,hs,ho,hw,eC]
 exact⟨okC,nC,⟨k.ex,k.wo.put v,xC,k.c1⟩,gC⟩
theorem qff (ok:Ok h) (k:BW h x W ws c) (hv:v / 64<W) (hv2:v<=100000) (hX:jb9 F 65 [.s x,vi v] h=none) (hT:jqt F 65=T 65) :
 WC F 65 [.s x,vi v] h (fun _ h'=>Ok h'/\h'.next=h.next/\BW h' x W (jx1 ws v) c/\∀ n,n≠c->h'.get n=h.get n):=by
 refine ja3 hX (hT.trans qxg) rfl ?_
 unfold qht
 have hx:=k.ix hv
 have xc:=k.xc
 have hl:=k.wo.1
 have hr:=rdW (ws:=ws) (i:=v / 64) (by omega) (ty:=124)
 have hw:=wrW (ws:=ws) (i:=v / 64) (by omega) (jv8 (ws.getD (v / 64) 0) (2 ^ (v % 64)))
 have ho:=jx6 (jff k.wo (v / 64)) (jvg v)
 have hs:=jx7 (b:=v % 64) (by omega)
 obtain⟨hC,eC,okC,nC,xC,gC⟩:=jq7 ok k.c1 (some (.arr ((ws.set (v / 64) (jv8 (ws.getD (v / 64) 0) (2 ^ (v % 64)))).map jm1).flatten 124))
 simp(disch:=first|omega|rfl) only[go_sem,qfd hv2,qfe hv2,hx,xc,hr,hs,ho,hw,eC]
 exact⟨okC,nC,⟨k.ex,k.wo.drop v,xC,k.c1⟩,gC⟩
theorem qa1 (w v:Nat):∀ {ws:List Nat},decide (ws.getD (v / 64) 0 / 2 ^ (v % 64) &&& 1=1)=jbn ws v:=fun {ws}=>by
 unfold jbn Nat.testBit
 rw[Nat.shiftRight_eq_div_pow,Nat.and_comm 1,f19]
 rcases Nat.mod_two_eq_zero_or_one (ws.getD (v / 64) 0 / 2 ^ (v % 64)) with h | h<;>rw[h]<;>rfl
theorem qa2 (ok:Ok h) (k:BW h x W ws c) (hv:v / 64<W) (hv2:v<=100000) (hX:jb9 F 43 [.s x,vi v] h=none) (hT:jqt F 43=T 43) :
 WC F 43 [.s x,vi v] h (fun u h'=>u=vb (jbn ws v)/\h'=h):=by
 refine ja3 hX (hT.trans qhs) rfl ?_
 unfold j0v
 have hx:=k.ix hv
 have xc:=k.xc
 have hl:=k.wo.1
 have hr:=rdW (ws:=ws) (i:=v / 64) (by omega) (ty:=124)
 have hs:=jx8 (a:=ws.getD (v / 64) 0) (b:=v % 64) (by omega)
 have hlt:=jff k.wo (v / 64)
 have ha:=jx5 (a:=ws.getD (v / 64) 0 / 2 ^ (v % 64)) (b:=1) (Nat.lt_of_le_of_lt (f3j _ _) hlt) (by omega)
 have he:=j3u (a:=ws.getD (v / 64) 0 / 2 ^ (v % 64) &&& 1) (b:=1)
 have hd:=qa1 0 v (ws:=ws)
 rw[hd] at he
 have e1:((1:Nat):Int)=1:=rfl
 rw[e1] at ha he
 simp(disch:=first|omega|rfl) only[go_sem,qfd hv2,qfe hv2,hx,xc,hr,hs,ha,he]
end
def jsf (i:Nat) (b c:List Nat):List Nat:=(List.range b.length).map (fun j=>if j<i then b.getD j 0 ||| c.getD j 0 else b.getD j 0)
theorem jer (i:Nat) (b c:List Nat):(jsf i b c).length=b.length:=by simp[jsf]
theorem jgz {i:Nat} {b c:List Nat} (hj:j<b.length):(jsf i b c)[j]?=some (if j<i then b.getD j 0 ||| c.getD j 0 else b.getD j 0):=by
 unfold jsf
 rw[f0p,f3b hj]
 rfl
theorem qa3 (b c:List Nat):jsf 0 b c=b:=by
 apply f1k
 intro j
 rcases f0i j b.length with h | h
 .rw [jgz h,if_neg (by omega),f0c,f0a h]
  rfl
 .rw [f0j (by rw[jer];exact h),f0j h]
theorem qfg {b c:List Nat} (hl:b.length=c.length):jsf b.length b c=jsc b c:=by
 apply f1k
 intro j
 rcases f0i j b.length with h | h
 .rw [jgz h,if_pos h]
  unfold jsc
  rw[List.getElem?_zipWith,f0a h,f0a (show j<c.length by omega),f0c,f0a h,f0c,f0a (show j<c.length by omega)]
  rfl
 .rw [f0j (by rw[jer];exact h),f0j (by unfold jsc;rw[List.length_zipWith];omega)]
theorem j3v {i:Nat} {b c:List Nat} (hi:i<b.length):(jsf i b c).set i (b.getD i 0 ||| c.getD i 0)=jsf (i+1) b c:=by
 apply f1k
 intro j
 rw[f1s]
 rcases f0i j b.length with h | h
 .by_cases e:i=j
  .subst e
   rw[if_pos rfl,if_pos (by rw[jer];exact hi),jgz h,if_pos (by omega)]
  .rw [if_neg e,jgz h,jgz h]
   by_cases e2:j<i
   .rw [if_pos e2,if_pos (by omega)]
   .rw [if_neg e2,if_neg (by omega)]
 .rw [if_neg (by omega),f0j (by rw[jer];exact h),f0j (by rw[jer];exact h)]
theorem qa4 {i:Nat} {b c:List Nat} (hi:i<b.length) (h:jv8 (c.getD i 0) (b.getD i 0)=0):jsf i b c=jsf (i+1) b c:=by
 rw[←j3v hi]
 apply f1k
 intro j
 rw[f1s]
 by_cases e:i=j
 .subst e
  rw[if_pos rfl,if_pos (by rw[jer];exact hi),jgz hi,if_neg (by omega),jx3 h]
 .rw [if_neg e]
theorem ql0 {N i:Nat} {b c:List Nat} (hb:WOk N b) (hc:WOk N c):WOk N (jsf i b c):=by
 refine⟨by rw[jer];exact hb.1,fun w hw=>?_⟩
 unfold jsf at hw
 obtain⟨j,_,rfl⟩:=f1a.1 hw
 split
 .exact f3h (jff hb j) (jff hc j)
 .exact jff hb j
def qda (i:Nat) (b c:List Nat):Bool:=(List.range i).any (fun i=>decide (jv8 (c.getD i 0) (b.getD i 0)≠0))
theorem jx9 (i:Nat) (b c:List Nat):qda (i+1) b c=(qda i b c||decide (jv8 (c.getD i 0) (b.getD i 0)≠0)):=by
 unfold qda
 rw[List.range_succ,List.any_append]
 simp
section
variable {F:Fns} {h:Hp} {N:Nat}
theorem qa5 {x:SV} {b c:List Nat} (hb:WOk N b) (hcc:cb≠cc) (hW:N<=1000) :
 ∀ (d i:Nat) (_:i+d=N) {g:Bool} (_:qda i b c=g) {hi:Hp} (_:Ok hi) (_:BW hi x N (jsf i b c) cb) (_:BW hi y N c cc) {x4 x5 x6:AV}
  (hQ:∀ hj x4 x5 x6,Ok hj->hj.next=hi.next->BW hj x N (jsf N b c) cb->(∀ n,n≠cb->hj.get n=hi.get n)->Q (.exit 0) (.mk [.s x,.s y,x2,vb (qda N b c),x4,x5,x6,vi N,vi N] hj)),
  W F jnm.loop (.mk [.s x,.s y,x2,vb g,x4,x5,x6,vi N,vi i] hi) Q
 | 0,i,hd,g,hg,hi,ok,k,k',x4,x5,x6,hQ=>by
  obtain rfl:i=N:=by omega
  subst hg
  rw[jai]
  unfold jnm
  simp(disch:=first|omega|rfl) only[go_sem,f0o]
  exact hQ hi _ _ _ ok rfl k (fun _ _=>rfl)
 | d+1,i,hd,g,hg,hi,ok,k,k',x4,x5,x6,hQ=>by
  have hlt:(i:Int)<(N:Int):=by omega
  have hs:(i:Int)+1=((i+1:Nat):Int):=by omega
  have hix:=k.ix (i:=i) (by omega)
  have hiy:=k'.ix (i:=i) (by omega)
  have xc:=k.xc
  have yc:=k'.xc
  have hbl:=hb.1
  have hrx:=rdW (ws:=jsf i b c) (i:=i) (by rw[jer];omega) (ty:=124)
  have hry:=rdW (ws:=c) (i:=i) (by rw[k'.wo.1];omega) (ty:=124)
  have hgx:(jsf i b c).getD i 0=b.getD i 0:=by
   rw[f0c,jgz (by omega),if_neg (by omega)]
   rfl
  rw[hgx] at hrx
  have lb:=jff hb i
  have lc:=jff k'.wo i
  have hm:=jx6 lc lb
  have hn:=qfc (a:=jv8 (c.getD i 0) (b.getD i 0)) (b:=0)
  have e0:((0:Nat):Int)=0:=rfl
  rw[e0] at hn
  rw[jai]
  unfold jnm j3p
  by_cases e:jv8 (c.getD i 0) (b.getD i 0)=0
  .have hp:qda (i+1) b c=qda i b c:=by rw[jx9,decide_eq_false (fun h=>h e),Bool.or_false]
   have hd0:decide (jv8 (c.getD i 0) (b.getD i 0)≠0)=false:=decide_eq_false (fun h=>h e)
   rw[hd0] at hn
   rw[qa4 (by omega) e] at k
   simp(disch:=first|omega|rfl) only[go_sem,jab,eq_true hlt,hix,hiy,xc,yc,hrx,hry,hm,hn,hs]
   exact qa5 hb hcc hW d (i+1) (by omega) (hp.trans hg) ok k k' hQ
  .have hp:qda (i+1) b c=true:=by rw[jx9,decide_eq_true e,Bool.or_true]
   have hd0:decide (jv8 (c.getD i 0) (b.getD i 0)≠0)=true:=decide_eq_true e
   rw[hd0] at hn
   have ho:=j3t lb lc
   have hw:=wrW (ws:=jsf i b c) (i:=i) (by rw[jer];omega) (b.getD i 0 ||| c.getD i 0)
   rw[j3v (by omega)] at hw
   obtain⟨hC,eC,okC,nC,xC,gC⟩:=jq7 ok k.c1 (some (.arr ((jsf (i+1) b c).map jm1).flatten 124))
   have kC:BW hC x N (jsf (i+1) b c) cb:=⟨k.ex,ql0 hb k'.wo,xC,k.c1⟩
   simp(disch:=first|omega|rfl) only[go_sem,jab,eq_true hlt,hix,hiy,xc,yc,hrx,hry,hm,hn,ho,hw,eC,hs]
   exact qa5 hb hcc hW d (i+1) (by omega) hp okC kC (k'.keep (gC cc (Ne.symm hcc))) (fun hj x4 x5 x6 o' n' k2 g'=>hQ hj x4 x5 x6 o' (by omega) k2 (fun n hn=>(g' n hn).trans (gC n hn)))
theorem qa6 (ok:Ok h) {x:SV} {b c:List Nat} (k:BW h x N b cb) (k':BW h y N c cc) (hcc:cb≠cc) (hW:N<=1000) (hX:jb9 F 62 [.s x,.s y] h=none) (hT:jqt F 62=T 62) :
 WC F 62 [.s x,.s y] h (fun u h'=>u=vb (j0w b c)/\Ok h'/\h'.next=h.next/\BW h' x N (jsc b c) cb/\∀ n,n≠cb->h'.get n=h.get n):=by
 refine ja3 hX (hT.trans qsq) rfl ?_
 unfold qan
 have ll:=k.len
 have hb:=k.wo
 have e:j0w b c=qda N b c:=by unfold j0w qda;rw[hb.1]
 have e2:jsf N b c=jsc b c:=by rw[←hb.1];exact qfg (by rw[hb.1,k'.wo.1])
 simp(disch:=first|omega|rfl) only[go_sem,ll]
 refine qa5 (b:=b) (c:=c) hb hcc hW N 0 (by omega) rfl ok (by rw[qa3];exact k) k' (fun hj x4 x5 x6 okj nj kj gj=>?_)
 simp(disch:=first|omega|rfl) only[go_sem]
 rw[e2] at kj
 exact⟨by rw[e],okj,nj,kj,gj⟩
theorem qa7 {x:SV} {ws:List Nat} {n lo:Nat} (hn2:n<=100000) (hlo:1<=lo) (H:∀ (hi:Hp) (v:Nat),v<n->Ok hi->WC F 43 [.s x,vi v] hi (fun u h'=>u=vb (jbn ws v)/\h'=hi)) :
 ∀ (d i:Nat) (_:i+d=n) {hi:Hp} (_:Ok hi) (_:lo<=hi.next) {a:SV} (_:Gs lo hi 3 1 EI a (jbo ws i)) {x4 x5 x6:AV}
  (hQ:∀ hj a x4 x5 x6,Ok hj->hi.next<=hj.next->Gs lo hj 3 1 EI a (jbo ws n)->Q (.exit 0) (.mk [.s x,x1,x2,.s a,x4,x5,x6,vi n,vi n] hj)),
  W F jnn.loop (.mk [.s x,x1,x2,.s a,x4,x5,x6,vi n,vi i] hi) Q
 | 0,i,hd,hi,ok,hl,a,ka,x4,x5,x6,hQ=>by
  obtain rfl:i=n:=by omega
  rw[jai]
  unfold jnn
  simp(disch:=first|omega|rfl) only[go_sem,f0o]
  exact hQ hi a _ _ _ ok (f0f _) ka
 | d+1,i,hd,hi,ok,hl,a,ka,x4,x5,x6,hQ=>by
  have hlt:(i:Int)<(n:Int):=by omega
  have hs:(i:Int)+1=((i+1:Nat):Int):=by omega
  have hll:(jbo ws i).length<=100000:=by
   have:=f3s (jbn ws) (List.range i)
   unfold jbo
   rw[List.length_range] at this
   omega
  have hsucc:jbo ws (i+1)=if jbn ws i=true then jbo ws i++[i] else jbo ws i:=by
   unfold jbo
   rw[List.range_succ,List.filter_append]
   by_cases e:jbn ws i=true
   .rw [if_pos e];simp[e]
   .rw [if_neg e];simp[e]
  rw[jai]
  unfold jnn j3q
  simp(disch:=first|omega|rfl) only[go_sem,eq_true hlt]
  refine WC.imp (H hi i (by omega) ok) ?_
  rintro _ _ ⟨rfl,rfl⟩
  by_cases e:jbn ws i=true
  .rw [if_pos e] at hsucc
   obtain⟨a',hF,eF,okF,nF,gF,kF⟩:=ka.app1 (bytes:=8) (row:=[si i]) (a:=i) (ms:=[]) (E1:=EI) (E2:=fun _=>EI) (fun _ _ _ _ e=>e) ok (f0f _) (fun _ _=>rfl) hl hlo
    ⟨rfl,rfl⟩ .nil (fun n hn=>by simp at hn) rfl (by omega) (by omega) (fun h2 _ row a m e hm=>e)
   rw[←hsucc] at kF
   simp(disch:=first|omega|rfl) only[go_sem,jab,e,eF,hs]
   exact qa7 hn2 hlo H d (i+1) (by omega) okF (by omega) kF (fun hj a x4 x5 x6 o' n' k'=>hQ hj a x4 x5 x6 o' (by omega) k')
  .rw [if_neg e] at hsucc
   rw[←hsucc] at ka
   have e':jbn ws i=false:=by cases hh:jbn ws i<;>simp_all
   simp(disch:=first|omega|rfl) only[go_sem,jab,e',hs]
   exact qa7 hn2 hlo H d (i+1) (by omega) ok hl ka hQ
theorem qxk (ok:Ok h) {ws:List Nat} (k:WOk N ws) (hv:v / 64<N) (hv2:v<=100000) (hX:jb9 F 43 [.s (jae jm1 ws),vi v] h=none) (hT:jqt F 43=T 43) :
 WC F 43 [.s (jae jm1 ws),vi v] h (fun u h'=>u=vb (jbn ws v)/\h'=h):=by
 refine ja3 hX (hT.trans qhs) rfl ?_
 unfold j0v
 have hl:=k.1
 obtain⟨w,hw⟩:∃ w,ws[v / 64]?=some w:=⟨_,f0a (by omega)⟩
 have hgd:ws.getD (v / 64) 0=w:=by rw[f0c,hw];rfl
 have hix:=jag (enc:=jm1) (size:=1) hw rfl
 have hs:=jx8 (a:=w) (b:=v % 64) (by omega)
 have hlt:=k.2 w (f0b hw)
 have ha:=jx5 (a:=w / 2 ^ (v % 64)) (b:=1) (Nat.lt_of_le_of_lt (f3j _ _) hlt) (by omega)
 have he:=j3u (a:=w / 2 ^ (v % 64) &&& 1) (b:=1)
 have hd2:decide (w / 2 ^ (v % 64) &&& 1=1)=jbn ws v:=by rw[←hgd];exact qa1 0 v
 rw[hd2] at he
 have e1:((1:Nat):Int)=1:=rfl
 rw[e1] at ha he
 simp(disch:=first|omega|rfl) only[go_sem,qfd hv2,qfe hv2,hix,jm1,hs,ha,he]
theorem qa8 (ok:Ok h) {ws:List Nat} {n:Nat} (k:WOk N ws) (hn:n<=64*N) (hn2:n<=100000) (hX:jb9 F 27 [.s (jae jm1 ws),vi n] h=none) (hT:jqt F 27=T 27) (hX':∀ v h,jb9 F 43 [.s (jae jm1 ws),vi v] h=none) (hT':jqt F 43=T 43) {kk:Bool} :
 WC F 27 [.s (jae jm1 ws),vi n] h (fun u h'=>∃ d,jf2 kk h' d u=some (.s (jae jal (jbo ws n)))):=by
 refine ja3 hX (hT.trans qsr) rfl ?_
 unfold qao
 simp(disch:=first|omega|rfl) only[go_sem]
 refine qa7 (lo:=h.next) (ws:=ws) hn2 ok.pos (fun hi v hv oki=>qxk oki k (by omega) (by omega) (hX' v hi) hT') n 0 (by omega) ok (f0f _) .nil (fun hj a x4 x5 x6 okj nj ⟨ns,s,_⟩=>?_)
 simp(disch:=first|omega|rfl) only[go_sem]
 exact⟨2,jaa.2 ⟨_,s.frz (enc:=jal) (d:=1) (fun row a ms e=>EI.frz e) (fun _=>rfl),rfl⟩⟩
theorem j0y (ok:Ok h) {n:Nat} (hn:n<=100000) (hX:jb9 F 40 [vi n] h=none) (hT:jqt F 40=T 40) :
 WC F 40 [vi n] h (fun u h'=>u=.s (.slice h.next 0 ((n+63) / 64) ((n+63) / 64) true 1)/\Ok h'/\h'.next=h.next+1/\(∀ n,n<h.next->h'.get n=h.get n)/\BW h' (.slice h.next 0 ((n+63) / 64) ((n+63) / 64) true 1) ((n+63) / 64) (jgy ((n+63) / 64)) h.next):=by
 refine ja3 hX (hT.trans qxe) rfl ?_
 unfold qhq
 have hq:jcw .quo (.int .i64 ((n:Int)+63)) (.int .i64 64)=some (vi (((n+63) / 64:Nat):Int)):=by
  rw[je8 (by omega) (by omega) (by omega)];rfl
 obtain⟨w,ew⟩:∃ w,(n+63) / 64=w:=⟨_,rfl⟩
 rw[ew] at hq ⊢
 obtain⟨hA,eA,okA,nA,xA,gA⟩:=jde ok (rep [.int .u64 0] w) 124
 have hmk:=jpg (e:=124) (size:=1) (bytes:=8) (z:=[.int .u64 0]) (m:=w) ok (by omega) (by omega)
 rw[eA] at hmk
 simp(disch:=first|omega|rfl) only[go_sem,jab,hq,hmk]
 refine⟨okA,nA,gA,⟨_,rfl⟩,jqd w,?_,ok.pos⟩
 rw[xA,qly]
 unfold jgy
 rw[List.map_replicate]
 rfl
noncomputable def qss (neg:Bool) (x y:Option AV):Option AV:=ob x (fun a=>ob y (fun b=>jcp b (jcp a (some (AV.s (.bool (ji9 neg)))) (fun _ _ _ _ _ _=>some (.s (.bool neg))) (fun _=>some (.s (.bool neg))) (some (.s (.bool neg)))) (fun _ _ _ _ _ _=>none) (fun _=>none) none))
theorem ql1 {st fr:List AV} {x y:Od}:pop st fr (.snil neg x y)=qss neg (ev st fr x) (ev st fr y):=rfl
theorem ql2 {b o n mc sz:Nat} {ex:Bool}:qss neg (some (.s (.slice b o n mc ex sz))) (some (.s .nilSlice))=some (.s (.bool neg)):=rfl
theorem qa9 (ok:Ok h) {b c:Nat} {ex:Bool} {cells:List SV} {ty ty':TypeId} (hb:h.get b=some (.arr [] ty')) (hc:h.get c=some (.arr cells ty)) (hl:cells.length=N) (hW:1<=N) (hW2:N<=1000) :
 jq2 h 124 1 8 (.s (.slice b 0 0 0 true 1)) (.s (.slice c 0 N N ex 1))=some (.s (.slice h.next 0 N N false 1),h.push (.arr cells 124)):=by
 have hr:rdB (h.get c) 0 (N*1)=some cells:=by
  rw[hc,je5,jh3]
  exact(jbe _).2 ⟨by omega,by rw[f2q (by omega)]⟩
 show ob (rdB (h.get c) 0 (N*1)) (fun new=>oif (Nat.beq 1 1) (oif (Nat.ble (Nat.add 0 N) 0) _ (jid 8 (Nat.add 0 N) (jf1 h 124 1 b 0 0 N true new))) none)=_
 rw[hr]
 have hb0:Nat.ble (Nat.add 0 N) 0=false:=by
  cases e:Nat.ble (Nat.add 0 N) 0 with
  | false=>rfl
  | true =>
   have h1:=f0m e
   have h2:Nat.add 0 N=0+N:=rfl
   omega
 show oif (Nat.ble (Nat.add 0 N) 0) _ (jid 8 (Nat.add 0 N) (jf1 h 124 1 b 0 0 N true cells))=_
 rw[hb0]
 show jid 8 (0+N) (jf1 h 124 1 b 0 0 N true cells)=_
 rw[jnc (by omega) (by omega)]
 show ob (h.get b) (fun x=>_)=_
 rw[hb]
 show nw h (jgn [] cells) 124 (fun k h=>Ev.ok (.s (.slice k 0 (0+N) (0+N) false 1)) h)=_
 rw[jw7 ok,f0z]
 rfl
theorem ql3 (ok:Ok h) {x:SV} {ws:List Nat} {c:Nat} (k:BW h x N ws c) (hc:c<h.next) (hW:1<=N) (hW2:N<=1000) (hX:jb9 F 63 [.s x] h=none) (hT:jqt F 63=T 63) :
 WC F 63 [.s x] h (fun u h'=>∃ y c',u=.s y/\Ok h'/\h.next<=h'.next/\h.next<=c'/\c'<h'.next/\(∀ n,n<h.next->h'.get n=h.get n)/\BW h' y N ws c'):=by
 refine ja3 hX (hT.trans qxh) rfl ?_
 unfold qhu
 obtain⟨ex,rfl⟩:=k.ex
 obtain⟨hA,eA,okA,nA,xA,gA⟩:=jde ok [] 124
 have hl:(ws.map jm1).flatten.length=N:=by rw[jse,f05];exact k.wo.1
 have ha:=qa9 (N:=N) (b:=h.next) (c:=c) (ex:=ex) okA xA ((gA c hc).trans k.xc) hl hW hW2
 obtain⟨hB,eB,okB,nB,xB,gB⟩:=jde okA (ws.map jm1).flatten 124
 rw[eB] at ha
 simp(disch:=first|omega|rfl) only[go_sem,ql1,ql2]
 unfold qap
 simp(disch:=first|omega|rfl) only[go_sem,eA,ha]
 exact⟨_,hA.next,rfl,okB,by omega,by omega,by omega,fun n hn=>(gB n (by omega)).trans (gA n hn),⟨_,rfl⟩,k.wo,xB,by omega⟩
end
structure SB (hi:Hp) (x:SV) (N:Nat) (ws:List Nat) (c:Nat):Prop where
 ok:Ok hi
 bw:BW hi x N ws c
 cn:c<hi.next
theorem SB.keep {hi hj:Hp} {x:SV} {N c:Nat} {ws:List Nat} (k:SB hi x N ws c) (ok:Ok hj) (hn:hi.next<=hj.next) (g:hj.get c=hi.get c):SB hj x N ws c:=⟨ok,k.bw.keep g,f0n k.cn hn⟩
theorem qba (x:Ms.Ins):jbm x=(x.ops.filter (fun o=>decide (o.kind=2))).map (·.value):=by
 unfold jbm
 congr 1
structure LvF (F:Fns):Prop where
 none:∀ f∈[40,61,43,65,62,27,63,64,42],∀ vs h,jb9 F f vs h=Option.none
 T:∀ f,jqt F f=Ev.T f
section
variable {F:Fns} (B:LvF F)
include B
theorem qst {x:SV} {N c:Nat} {l:List Nat} (hl:l.length<=1000) (ho:∀ u∈l,u / 64<N/\u<=100000) {fin:List Nat} :
 ∀ (d i:Nat) (_:i+d=l.length) {hi:Hp} {ws:List Nat} (_:SB hi x N ws c) (_:(l.drop i).foldl jsb ws=fin) {x14 x17:AV}
  (hQ:∀ hj x14 x17,SB hj x N fin c->hj.next=hi.next->(∀ n,n≠c->hj.get n=hi.get n)->Q (.exit 0) (.mk [x0,x1,x2,x3,x4,x5,x6,x7,x8,x9,x10,x11,x12,x13,x14,.s x,.s (jae jal l),x17,vi l.length,vi l.length,x20,x21] hj)),
  W F ju8.loop (.mk [x0,x1,x2,x3,x4,x5,x6,x7,x8,x9,x10,x11,x12,x13,x14,.s x,.s (jae jal l),x17,vi l.length,vi i,x20,x21] hi) Q
 | 0,i,hd,hi,ws,k,hf,x14,x17,hQ=>by
  obtain rfl:i=l.length:=by omega
  rw[f2c] at hf
  have hf':ws=fin:=hf
  subst hf'
  rw[jai]
  unfold ju8
  simp(disch:=first|omega|rfl) only[go_sem,f0o]
  exact hQ hi _ _ k rfl (fun _ _=>rfl)
 | d+1,i,hd,hi,ws,k,hf,x14,x17,hQ=>by
  have hil:i<l.length:=by omega
  have hlt:(i:Int)<(l.length:Int):=by omega
  have hs:(i:Int)+1=((i+1:Nat):Int):=by omega
  obtain⟨u,hu⟩:∃ u,l[i]?=some u:=⟨_,f0a hil⟩
  obtain⟨hu1,hu2⟩:=ho u (f0b hu)
  have hix:=jag (enc:=jal) (size:=1) hu rfl
  have hdr:l.drop i=u::l.drop (i+1):=by
   rw[f03 hil];congr 1;exact(f0h.1 hu).2
  rw[hdr] at hf
  have ok:=k.ok
  rw[jai]
  unfold ju8 qaq
  simp(disch:=first|omega|rfl) only[go_sem,eq_true hlt,hix,jal]
  refine WC.imp (jvi (F:=F) ok k.bw hu1 hu2 (B.none _ (by simp) _ _) (B.T _)) ?_
  rintro _ hA ⟨okA,nA,kA,gA⟩
  simp(disch:=first|omega|rfl) only[go_sem,jab,hs]
  exact qst hl ho d (i+1) (by omega) ⟨okA,kA,by have:=k.cn;omega⟩ hf (fun hj x14 x17 k' n' g'=>hQ hj x14 x17 k' (by omega) (fun n hn=>(g' n hn).trans (gA n hn)))
theorem ql4 {x:SV} {N c:Nat} {l:List Ms.Opd} (hl:l.length<=1000) (ho:∀ o∈l,o.value / 64<N/\o.value<=100000) {fin:List Nat} :
 ∀ (d i:Nat) (_:i+d=l.length) {hi:Hp} {ws:List Nat} (_:SB hi x N ws c) (_:(((l.drop i).filter (fun o=>decide (o.kind=2))).map (·.value)).foldl jsb ws=fin) {x3 x4 x6:AV}
  (hQ:∀ hj x3 x4 x6,SB hj x N fin c->hi.next<=hj.next->(∀ n,n<hi.next->n≠c->hj.get n=hi.get n)->Q (.exit 4) (.mk [x0,x1,x2,x3,x4,.s (jae jbd l),x6,vi l.length,vi l.length,x9,x10,x11,x12,x13,x14,.s x,x16,x17,x18,x19,x20,x21] hj)),
  W F ju9.loop (.mk [x0,x1,x2,x3,x4,.s (jae jbd l),x6,vi l.length,vi i,x9,x10,x11,x12,x13,x14,.s x,x16,x17,x18,x19,x20,x21] hi) Q
 | 0,i,hd,hi,ws,k,hf,x3,x4,x6,hQ=>by
  obtain rfl:i=l.length:=by omega
  rw[f2c] at hf
  have hf':ws=fin:=hf
  subst hf'
  rw[jai]
  unfold ju9
  simp(disch:=first|omega|rfl) only[go_sem,f0o]
  exact hQ hi _ _ _ k (f0f _) (fun _ _ _=>rfl)
 | d+1,i,hd,hi,ws,k,hf,x3,x4,x6,hQ=>by
  have hil:i<l.length:=by omega
  have hlt:(i:Int)<(l.length:Int):=by omega
  have hs:(i:Int)+1=((i+1:Nat):Int):=by omega
  obtain⟨o,hu⟩:∃ u,l[i]?=some u:=⟨_,f0a hil⟩
  obtain⟨hu1,hu2⟩:=ho o (f0b hu)
  have hix:=jag (enc:=jbd) (size:=5) hu rfl
  have hdr:l.drop i=o::l.drop (i+1):=by
   rw[f03 hil];congr 1;exact(f0h.1 hu).2
  rw[hdr,List.filter_cons] at hf
  have ok:=k.ok
  obtain⟨hA,eA,okA,nA,xA,gA⟩:=jbt ok [.int .i64 0,.int .i64 0,.bool false,.int .i64 0,.int .i64 0] (jbd o) 48
  have kA:=k.keep okA (by omega) (gA _ k.cn)
  unfold jbd at xA eA
  rw[jai]
  unfold ju9 qar
  by_cases e:o.kind=2
  .have c1:((o.kind:Int)=2)=True:=eq_true (by omega)
   rw[if_pos (decide_eq_true e)] at hf
   simp(disch:=first|omega|rfl) only[go_sem,jab,eq_true hlt,hix,jbd,eA,xA,c1]
   refine WC.imp (jvi (F:=F) okA kA.bw hu1 hu2 (B.none _ (by simp) _ _) (B.T _)) ?_
   rintro _ hB ⟨okB,nB,kB,gB⟩
   simp(disch:=first|omega|rfl) only[go_sem,jab,hs]
   exact ql4 hl ho d (i+1) (by omega) ⟨okB,kB,by have:=kA.cn;omega⟩ hf (fun hj x3 x4 x6 k' n' g'=>hQ hj x3 x4 x6 k' (by omega) (fun n h1 h2=>(g' n (by omega) h2).trans ((gB n h2).trans (gA n h1))))
  .have c1:((o.kind:Int)=2)=False:=eq_false (by omega)
   rw[if_neg (by simp[e])] at hf
   simp(disch:=first|omega|rfl) only[go_sem,jab,eq_true hlt,hix,jbd,eA,xA,c1,hs]
   exact ql4 hl ho d (i+1) (by omega) kA hf (fun hj x3 x4 x6 k' n' g'=>hQ hj x3 x4 x6 k' (by omega) (fun n h1 h2=>(g' n (by omega) h2).trans (gA n h1)))
theorem qsu {x:SV} {N c:Nat} {l:List Ms.Ins} (hl:l.length<=1000) (ho:∀ y∈l,y.ops.length<=6/\∀ o∈y.ops,o.value / 64<N/\o.value<=100000) {fin:List Nat} :
 ∀ (d i:Nat) (_:i+d=l.length) {hi:Hp} {ws:List Nat} (_:SB hi x N ws c) (_:(((l.drop i).map jbm).flatten).foldl jsb ws=fin) {x3 x4 x5 x6 x7 x8 x9 x11:AV}
  (hQ:∀ hj x3 x4 x5 x6 x7 x8 x9 x11,SB hj x N fin c->hi.next<=hj.next->(∀ n,n<hi.next->n≠c->hj.get n=hi.get n)->Q (.exit 2) (.mk [x0,x1,x2,x3,x4,x5,x6,x7,x8,x9,.s (jae jc6 l),x11,vi l.length,vi l.length,x14,.s x,x16,x17,x18,x19,x20,x21] hj)),
  W F jva.loop (.mk [x0,x1,x2,x3,x4,x5,x6,x7,x8,x9,.s (jae jc6 l),x11,vi l.length,vi i,x14,.s x,x16,x17,x18,x19,x20,x21] hi) Q
 | 0,i,hd,hi,ws,k,hf,x3,x4,x5,x6,x7,x8,x9,x11,hQ=>by
  obtain rfl:i=l.length:=by omega
  rw[f2c] at hf
  have hf':ws=fin:=hf
  subst hf'
  rw[jai]
  unfold jva
  simp(disch:=first|omega|rfl) only[go_sem,f0o]
  exact hQ hi _ _ _ _ _ _ _ _ k (f0f _) (fun _ _ _=>rfl)
 | d+1,i,hd,hi,ws,k,hf,x3,x4,x5,x6,x7,x8,x9,x11,hQ=>by
  have hil:i<l.length:=by omega
  have hlt:(i:Int)<(l.length:Int):=by omega
  have hs:(i:Int)+1=((i+1:Nat):Int):=by omega
  obtain⟨y,hu⟩:∃ u,l[i]?=some u:=⟨_,f0a hil⟩
  obtain⟨h6,hoL⟩:=ho y (f0b hu)
  have hix:=jag (enc:=jc6) (size:=3) hu rfl
  have hdr:l.drop i=y::l.drop (i+1):=by
   rw[f03 hil];congr 1;exact(f0h.1 hu).2
  rw[hdr,f2u,f1j,f2t] at hf
  have ok:=k.ok
  obtain⟨hA,eA,okA,nA,xA,gA⟩:=jbt ok [.int .i64 0,.nilSlice,.nilSlice] (jc6 y) 46
  have kA:=k.keep okA (by omega) (gA _ k.cn)
  have lo1:=jaf (enc:=jbd) (l:=y.ops)
  unfold jc6 at xA eA
  rw[jai]
  unfold jva qas
  simp(disch:=first|omega|rfl) only[go_sem,jab,eq_true hlt,hix,jc6,eA,xA,lo1]
  refine ql4 B (l:=y.ops) (by omega) hoL (fin:=(jbm y).foldl jsb ws) y.ops.length 0 (by omega) kA (by rw[qba];rfl) (fun hj x3 x4 x6 kj nj gj=>?_)
  simp(disch:=first|omega|rfl) only[go_sem,jab,hs]
  exact qsu hl ho d (i+1) (by omega) kj hf (fun hk x3 x4 x5 x6 x7 x8 x9 x11 k' n' g'=>hQ hk x3 x4 x5 x6 x7 x8 x9 x11 k' (by omega) (fun n h1 h2=>(g' n (by omega) h2).trans ((gj n (by omega) h2).trans (gA n h1))))
theorem qbb {h:Hp} (ok:Ok h) {f:Fc} {b:Ms.Blk} {N:Nat} (hW:(f.values.length+63) / 64=N) (hv:f.values.length<=10000) (hb:b.params.length<=5/\b.instrs.length<=40/\(∀ u∈b.params,u<f.values.length)/\∀ x∈b.instrs,x.ops.length<=6/\∀ o∈x.ops,o.value<f.values.length) :
 WC F 64 [.agg (j2k f),.agg (jax b)] h (fun u h'=>∃ x c,u=.s x/\Ok h'/\h.next<=h'.next/\h.next<=c/\c<h'.next/\(∀ n,n<h.next->h'.get n=h.get n)/\BW h' x N (jih N b) c):=by
 refine ja3 (B.none _ (by simp) _ _) ((B.T _).trans qxi) rfl ?_
 unfold qhv
 have hpos:=ok.pos
 obtain⟨p1,p2,p3,p4⟩:=hb
 have dv:∀ {u:Nat},u<f.values.length->u / 64<N/\u<=100000:=fun {u} h=>by omega
 obtain⟨hA,eA,okA,nA,xA,gA⟩:=jde ok [jae jal f.values,jae jax f.blocks] 30
 obtain⟨hB,eB,okB,nB,xB,gB⟩:=jde okA [jae jal b.params,jae jc6 b.instrs,jae jfl b.edges] 42
 have yA:=(gB _ (by omega)).trans xA
 rw[nA] at xB
 have lv:=jaf (enc:=jal) (l:=f.values)
 have lp:=jaf (enc:=jal) (l:=b.params)
 have li:=jaf (enc:=jc6) (l:=b.instrs)
 unfold j2k
 simp(disch:=first|omega|rfl) only[go_sem,jax,eA,eB,nA,yA,lv]
 refine WC.imp (j0y (F:=F) okB (n:=f.values.length) (by omega) (B.none _ (by simp) _ _) (B.T _)) ?_
 rintro _ hC ⟨rfl,okC,nC,gC,kC⟩
 rw[hW] at kC ⊢
 have xC:=(gC _ (by omega)).trans xB
 simp(disch:=first|omega|rfl) only[go_sem,xC,lp]
 refine qst B (l:=b.params) (c:=hB.next) (N:=N) (by omega) (fun u hu=>dv (p3 u hu)) (fin:=b.params.foldl jsb (jgy N)) b.params.length 0 (by omega) ⟨okC,kC,by omega⟩ rfl (fun hD x14 x17 kD nD gD=>?_)
 have xD:=(gD (h.next+1) (by omega)).trans xC
 simp(disch:=first|omega|rfl) only[go_sem,xD,li]
 refine qsu B (l:=b.instrs) (c:=hB.next) (N:=N) (by omega) (fun x hx=>⟨(p4 x hx).1,fun o ho=>dv ((p4 x hx).2 o ho)⟩) (fin:=jih N b) b.instrs.length 0 (by omega) kD (by unfold jih jck;rw[f2t];rfl) (fun hE x3 x4 x5 x6 x7 x8 x9 x11 kE nE gE=>?_)
 simp(disch:=first|omega|rfl) only[go_sem,hW]
 exact⟨_,hB.next,rfl,kE.ok,by omega,by omega,kE.cn,fun n hn=>by rw[gE n (by omega) (by omega),gD n (by omega),gC n (by omega),gB n (by omega),gA n hn],kE.bw⟩
end
def jb4 (N c:Nat):SV:=.slice c 0 N N true 1
structure NS (hi:Hp) (f:Fc) (N p ci co:Nat) (ic oc:List Nat) (ins outs:List (List Nat)):Prop where
 ok:Ok hi
 xp:hi.get p=some (.arr [jae jal f.values,jae jax f.blocks,.slice ci 0 f.blocks.length f.blocks.length false 1,.slice co 0 f.blocks.length f.blocks.length false 1] 83)
 xi:hi.get ci=some (.arr (ic.map (jb4 N)) 80)
 xo:hi.get co=some (.arr (oc.map (jb4 N)) 80)
 li:ic.length=f.blocks.length
 lo:oc.length=f.blocks.length
 mi:ins.length=f.blocks.length
 mo:outs.length=f.blocks.length
 bi:∀ (k c:Nat),ic[k]?=some c->BW hi (jb4 N c) N (ins.getD k []) c
 bo:∀ (k c:Nat),oc[k]?=some c->BW hi (jb4 N c) N (outs.getD k []) c
 nd:(p::ci::co::(ic++oc)).Nodup
 lt:∀ n∈p::ci::co::(ic++oc),1<=n/\n<hi.next
section
variable {hi hj:Hp} {f:Fc} {N p ci co:Nat} {ic oc:List Nat} {ins outs:List (List Nat)}
theorem NS.keep (k:NS hi f N p ci co ic oc ins outs) (ok:Ok hj) (hn:hi.next<=hj.next) (g:∀ n∈p::ci::co::(ic++oc),hj.get n=hi.get n):NS hj f N p ci co ic oc ins outs :=
 ⟨ok,(g p (by simp)).trans k.xp,(g ci (by simp)).trans k.xi,(g co (by simp)).trans k.xo,k.li,k.lo,k.mi,k.mo,fun q c h=>(k.bi q c h).keep (g c (by simp[f0b h])),fun q c h=>(k.bo q c h).keep (g c (by simp[f0b h])),k.nd,fun n hn'=>by have:=k.lt n hn';omega⟩
theorem qhx {l:List Nat} (h:l.Nodup) {i c:Nat} (h1:l[i]?=some c) (h2:l[j]?=some c):i=j:=by
 obtain⟨a1,a2⟩:=f0h.1 h1
 obtain⟨b1,b2⟩:=f0h.1 h2
 exact(List.getElem_inj h).1 (a2.trans b2.symm)
theorem jb2 {l:List (List Nat)} {i:Nat} {x:List Nat} (hi:i<l.length):(l.set i x).getD j []=if i=j then x else l.getD j []:=by
 simp only[f0c,f1s]
 by_cases e:i=j
 .subst e;simp[hi]
 .simp [e]
theorem NS.ndc (k:NS hi f N p ci co ic oc ins outs):(ic++oc).Nodup/\p≠ci/\p≠co/\ci≠co/\∀ c∈ic++oc,p≠c/\ci≠c/\co≠c:=by
 obtain⟨h1,h2⟩:=f0v.1 k.nd
 obtain⟨h3,h4⟩:=f0v.1 h2
 obtain⟨h5,h6⟩:=f0v.1 h4
 refine⟨h6,fun e=>h1 (by simp[e]),fun e=>h1 (by simp[e]),fun e=>h3 (by simp[e]),fun c hc=>⟨fun e=>h1 (by simp only[f0e];exact .inr (.inr (e▸hc))),fun e=>h3 (by simp only[f0e];exact .inr (e▸hc)),fun e=>h5 (e▸hc)⟩⟩
theorem NS.setO (k:NS hi f N p ci co ic oc ins outs) {b c:Nat} (hc:oc[b]?=some c) {ws:List Nat} (ok:Ok hj) (hn:hj.next=hi.next) (kb:BW hj (jb4 N c) N ws c) (g:∀ n,n≠c->hj.get n=hi.get n):NS hj f N p ci co ic oc ins (outs.set b ws):=by
 obtain⟨n1,n2,n3,n4,n5⟩:=k.ndc
 obtain⟨d1,d2,d3⟩:=f0l.1 n1
 have hm:=f0b hc
 obtain⟨e1,e2,e3⟩:=n5 c (by simp[hm])
 have hb:b<outs.length:=by rw[k.mo,←k.lo];exact(f0h.1 hc).1
 refine⟨ok,(g p e1).trans k.xp,(g ci e2).trans k.xi,(g co e3).trans k.xo,k.li,k.lo,k.mi,by rw[f1u];exact k.mo,fun q c' h=>(k.bi q c' h).keep (g c' (fun e=>d3 c' (f0b h) c hm e)),fun q c' h=>?_,k.nd,fun n hn'=>by have:=k.lt n hn';omega⟩
 rw[jb2 hb]
 by_cases e:b=q
 .subst e
  rw[hc] at h
  cases h
  rw[if_pos rfl]
  exact kb
 .rw [if_neg e]
  exact(k.bo q c' h).keep (g c' (fun e'=>e (qhx d2 hc (e'▸h))))
theorem NS.setI (k:NS hi f N p ci co ic oc ins outs) {b c:Nat} (hc:ic[b]?=some c) {ws:List Nat} (ok:Ok hj) (hn:hj.next=hi.next) (kb:BW hj (jb4 N c) N ws c) (g:∀ n,n≠c->hj.get n=hi.get n):NS hj f N p ci co ic oc (ins.set b ws) outs:=by
 obtain⟨n1,n2,n3,n4,n5⟩:=k.ndc
 obtain⟨d1,d2,d3⟩:=f0l.1 n1
 have hm:=f0b hc
 obtain⟨e1,e2,e3⟩:=n5 c (by simp[hm])
 have hb:b<ins.length:=by rw[k.mi,←k.li];exact(f0h.1 hc).1
 refine⟨ok,(g p e1).trans k.xp,(g ci e2).trans k.xi,(g co e3).trans k.xo,k.li,k.lo,by rw[f1u];exact k.mi,k.mo,fun q c' h=>?_,fun q c' h=>(k.bo q c' h).keep (g c' (fun e=>d3 c hm c' (f0b h) e.symm)),k.nd,fun n hn'=>by have:=k.lt n hn';omega⟩
 rw[jb2 hb]
 by_cases e:b=q
 .subst e
  rw[hc] at h
  cases h
  rw[if_pos rfl]
  exact kb
 .rw [if_neg e]
  exact(k.bi q c' h).keep (g c' (fun e'=>e (qhx d1 hc (e'▸h))))
end
theorem qsv (a p:Nat):(if a<=p/\p<a then true else false)=false:=by rw[if_neg];omega
theorem rdS {l:List SV} {i:Nat} {x:SV} {ty:TypeId} (h:l[i]?=some x):rdB (some (.arr l ty)) i 1=some [x]:=jr7 h
structure RdF (F:Fns):Prop where
 none:∀ f∈[40,61,43,65,62,63,42],∀ vs h,jb9 F f vs h=Option.none
 T:∀ f,jqt F f=Ev.T f
 made:∀ (h:Hp) (f:Fc) (b:Ms.Blk) (N:Nat),(f.values.length+63) / 64=N->1<=N->f.values.length<=10000->(b.params.length<=5/\b.instrs.length<=40/\(∀ u∈b.params,u<f.values.length)/\∀ x∈b.instrs,x.ops.length<=6/\∀ o∈x.ops,o.value<f.values.length) ->
  jb9 F 64 [.agg [jae jal f.values,jae jax f.blocks],.agg [jae jal b.params,jae jc6 b.instrs,jae jfl b.edges]] h=some (.s (jae jm1 (jih N b)),h)
 list:∀ (h:Hp) (N n:Nat) (ws:List Nat),WOk N ws->n<=64*N->n<=100000->jb9 F 27 [.s (jae jm1 ws),vi n] h=some (.s (jae jal (jbo ws n)),h)
section
variable {F:Fns} (B:RdF F)
include B
theorem qsw {f:Fc} {N p ci co:Nat} {ic oc:List Nat} {ins outs:List (List Nat)} {b c:Nat} (hc:oc[b]?=some c) {l:List Nat} (hl:l.length<=1000) (ho:∀ u∈l,u / 64<N/\u<=100000) {fin:List Nat} :
 ∀ (d i:Nat) (_:i+d=l.length) {hi:Hp} {o:List Nat} (_:NS hi f N p ci co ic oc ins (outs.set b (o))) (_:(l.drop i).foldl jsb o=fin) {x20 x22:AV}
  (hQ:∀ hj x20 x22,NS hj f N p ci co ic oc ins (outs.set b (fin))->hj.next=hi.next->(∀ n,n≠c->hj.get n=hi.get n)->Q (.exit 2) (.mk [.s (.ptr p 0),vi b,x2,x3,x4,x5,x6,x7,x8,x9,x10,x11,x12,x13,x14,x15,x16,x17,x18,x19,x20,.s (jae jal l),x22,vi l.length,vi l.length,x25,x26,x27,x28,x29,x30] hj)),
  W F jvb.loop (.mk [.s (.ptr p 0),vi b,x2,x3,x4,x5,x6,x7,x8,x9,x10,x11,x12,x13,x14,x15,x16,x17,x18,x19,x20,.s (jae jal l),x22,vi l.length,vi i,x25,x26,x27,x28,x29,x30] hi) Q
 | 0,i,hd,hi,o,k,hf,x20,x22,hQ=>by
  obtain rfl:i=l.length:=by omega
  rw[f2c] at hf
  have hf':o=fin:=hf
  subst hf'
  rw[jai]
  unfold jvb
  simp(disch:=first|omega|rfl) only[go_sem,f0o]
  exact hQ hi _ _ k rfl (fun _ _=>rfl)
 | d+1,i,hd,hi,o,k,hf,x20,x22,hQ=>by
  have hil:i<l.length:=by omega
  have hlt:(i:Int)<(l.length:Int):=by omega
  have hs:(i:Int)+1=((i+1:Nat):Int):=by omega
  obtain⟨u,hu⟩:∃ u,l[i]?=some u:=⟨_,f0a hil⟩
  obtain⟨hu1,hu2⟩:=ho u (f0b hu)
  have hix:=jag (enc:=jal) (size:=1) hu rfl
  have hdr:l.drop i=u::l.drop (i+1):=by
   rw[f03 hil];congr 1;exact(f0h.1 hu).2
  rw[hdr] at hf
  have ok:=k.ok
  have xp:=k.xp
  have xo:=k.xo
  have hbl:b<f.blocks.length:=by rw[←k.lo];exact(f0h.1 hc).1
  have hbo:b<outs.length:=by have:=k.mo;rw[f1u] at this;omega
  have hsl:=jhq (c:=co) (L:=f.blocks.length) (ex:=false) hbl
  have hrs:=rdS (l:=oc.map (jb4 N)) (i:=b) (x:=jb4 N c) (ty:=80) (by rw[f0p,hc];rfl)
  have kb:=k.bo b c hc
  rw[jb2 hbo,if_pos rfl] at kb
  rw[jai]
  unfold jvb qat
  simp(disch:=first|omega|rfl) only[go_sem,eq_true hlt,hix,jal,xp,xo,hsl,hrs]
  refine WC.imp (jvi (F:=F) ok kb hu1 hu2 (B.none _ (by simp) _ _) (B.T _)) ?_
  rintro _ hA ⟨okA,nA,kA,gA⟩
  have k2:=k.setO hc okA nA kA gA
  rw[List.set_set] at k2
  simp(disch:=first|omega|rfl) only[go_sem,jab,hs]
  exact qsw hc hl ho d (i+1) (by omega) k2 hf (fun hj x20 x22 k' n' g'=>hQ hj x20 x22 k' (by omega) (fun n hn=>(g' n hn).trans (gA n hn)))
theorem qsx {f:Fc} {N p ci co:Nat} {ic oc:List Nat} {ins outs:List (List Nat)} {b c:Nat} (hc:oc[b]?=some c) {l:List Ms.Edg} (hl:l.length<=1000) (ho:∀ e∈l,e.args.length<=100/\e.block<f.blocks.length/\∀ u∈e.args,u / 64<N/\u<=100000) (hN:N<=1000) {fin:List Nat} :
 ∀ (d i:Nat) (_:i+d=l.length) {hi:Hp} {o:List Nat} (_:NS hi f N p ci co ic oc ins (outs.set b (o))) (_:(l.drop i).foldl (qqo ins) o=fin) {x20 x21 x22 x23 x24 x25 x27:AV}
  (hQ:∀ hj x20 x21 x22 x23 x24 x25 x27,NS hj f N p ci co ic oc ins (outs.set b (fin))->hi.next<=hj.next->(∀ n,n<hi.next->n≠c->hj.get n=hi.get n)->Q (.exit 0) (.mk [.s (.ptr p 0),vi b,x2,x3,x4,x5,x6,x7,x8,x9,x10,x11,x12,x13,x14,x15,x16,x17,x18,x19,x20,x21,x22,x23,x24,x25,.s (jae jfl l),x27,vi l.length,vi l.length,x30] hj)),
  W F jvc.loop (.mk [.s (.ptr p 0),vi b,x2,x3,x4,x5,x6,x7,x8,x9,x10,x11,x12,x13,x14,x15,x16,x17,x18,x19,x20,x21,x22,x23,x24,x25,.s (jae jfl l),x27,vi l.length,vi i,x30] hi) Q
 | 0,i,hd,hi,o,k,hf,x20,x21,x22,x23,x24,x25,x27,hQ=>by
  obtain rfl:i=l.length:=by omega
  rw[f2c] at hf
  have hf':o=fin:=hf
  subst hf'
  rw[jai]
  unfold jvc
  simp(disch:=first|omega|rfl) only[go_sem,f0o]
  exact hQ hi _ _ _ _ _ _ _ k (f0f _) (fun _ _ _=>rfl)
 | d+1,i,hd,hi,o,k,hf,x20,x21,x22,x23,x24,x25,x27,hQ=>by
  have hil:i<l.length:=by omega
  have hlt:(i:Int)<(l.length:Int):=by omega
  have hs:(i:Int)+1=((i+1:Nat):Int):=by omega
  obtain⟨e,hu⟩:∃ u,l[i]?=some u:=⟨_,f0a hil⟩
  obtain⟨hu0,hu1,hu2⟩:=ho e (f0b hu)
  have hix:=jag (enc:=jfl) (size:=2) hu rfl
  have hdr:l.drop i=e::l.drop (i+1):=by
   rw[f03 hil];congr 1;exact(f0h.1 hu).2
  rw[hdr] at hf
  have ok:=k.ok
  have hcl:=(k.lt c (by simp[f0b hc])).2
  have hbl:b<f.blocks.length:=by rw[←k.lo];exact(f0h.1 hc).1
  have hbo:b<outs.length:=by have:=k.mo;rw[f1u] at this;omega
  obtain⟨hA,eA,okA,nA,xA,gA⟩:=jbt ok [.int .i64 0,.nilSlice] (jfl e) 56
  have kA:=k.keep okA (by omega) (fun n hn=>gA n (k.lt n hn).2)
  have la:=jaf (enc:=jal) (l:=e.args)
  unfold jfl at xA eA
  rw[jai]
  unfold jvc qau
  simp(disch:=first|omega|rfl) only[go_sem,jab,eq_true hlt,hix,jfl,eA,xA,la]
  refine qsw B hc (l:=e.args) (by omega) hu2 (fin:=e.args.foldl jsb o) e.args.length 0 (by omega) kA rfl (fun hj x20 x22 kj nj gj=>?_)
  have okj:=kj.ok
  have xj:=(gj hi.next (by omega)).trans xA
  have xp:=kj.xp
  have xo:=kj.xo
  have xi:=kj.xi
  obtain⟨ct,hct⟩:∃ ct,ic[e.block]?=some ct:=⟨_,f0a (by rw[kj.li];exact hu1)⟩
  have hsl:=jhq (c:=co) (L:=f.blocks.length) (ex:=false) hbl
  have hrs:=rdS (l:=oc.map (jb4 N)) (i:=b) (x:=jb4 N c) (ty:=80) (by rw[f0p,hc];rfl)
  have hsi:=jhq (c:=ci) (L:=f.blocks.length) (ex:=false) hu1
  have hri:=rdS (l:=ic.map (jb4 N)) (i:=e.block) (x:=jb4 N ct) (ty:=80) (by rw[f0p,hct];rfl)
  have kb:=kj.bo b c hc
  rw[jb2 hbo,if_pos rfl] at kb
  have kt:=kj.bi e.block ct hct
  have hne:c≠ct:=fun e'=>by
   have:=(f0l.1 kj.ndc.1).2.2 ct (f0b hct) c (f0b hc)
   exact this e'.symm
  simp(disch:=first|omega|rfl) only[go_sem,xp,xo,hsl,hrs,xi,xj,hsi,hri]
  refine WC.imp (qa6 (F:=F) okj kb kt hne hN (B.none _ (by simp) _ _) (B.T _)) ?_
  rintro _ hB ⟨rfl,okB,nB,kB,gB⟩
  have k2:=kj.setO hc okB nB kB gB
  rw[List.set_set] at k2
  simp(disch:=first|omega|rfl) only[go_sem,jab,hs]
  exact qsx hc hl ho hN d (i+1) (by omega) k2 hf (fun hk x20 x21 x22 x23 x24 x25 x27 k' n' g'=>hQ hk x20 x21 x22 x23 x24 x25 x27 k' (by omega) (fun n h1 h2=>(g' n (by omega) h2).trans ((gB n h2).trans ((gj n h2).trans (gA n h1)))))
theorem ql5 {N c:Nat} {l:List Ms.Opd} (hl:l.length<=1000) (ho:∀ o∈l,o.value / 64<N/\o.value<=100000) {fin:List Nat} :
 ∀ (d i:Nat) (_:i+d=l.length) {hi:Hp} {ws:List Nat} (_:SB hi y N ws c) (_:(((l.drop i).filter (fun o=>decide (o.kind=1))).map (·.value)).foldl jsb ws=fin) {x9 x10 x12:AV}
  (hQ:∀ hj x9 x10 x12,SB hj y N fin c->hi.next<=hj.next->(∀ n,n<hi.next->n≠c->hj.get n=hi.get n)->Q (.exit 6) (.mk [x0,x1,x2,x3,x4,x5,x6,x7,.s y,x9,x10,.s (jae jbd l),x12,vi l.length,vi l.length,x15,x16,x17,x18,x19,x20,x21,x22,x23,x24,x25,x26,x27,x28,x29,x30] hj)),
  W F jvd.loop (.mk [x0,x1,x2,x3,x4,x5,x6,x7,.s y,x9,x10,.s (jae jbd l),x12,vi l.length,vi i,x15,x16,x17,x18,x19,x20,x21,x22,x23,x24,x25,x26,x27,x28,x29,x30] hi) Q
 | 0,i,hd,hi,ws,k,hf,x9,x10,x12,hQ=>by
  obtain rfl:i=l.length:=by omega
  rw[f2c] at hf
  have hf':ws=fin:=hf
  subst hf'
  rw[jai]
  unfold jvd
  simp(disch:=first|omega|rfl) only[go_sem,f0o]
  exact hQ hi _ _ _ k (f0f _) (fun _ _ _=>rfl)
 | d+1,i,hd,hi,ws,k,hf,x9,x10,x12,hQ=>by
  have hil:i<l.length:=by omega
  have hlt:(i:Int)<(l.length:Int):=by omega
  have hs:(i:Int)+1=((i+1:Nat):Int):=by omega
  obtain⟨o,hu⟩:∃ u,l[i]?=some u:=⟨_,f0a hil⟩
  obtain⟨hu1,hu2⟩:=ho o (f0b hu)
  have hix:=jag (enc:=jbd) (size:=5) hu rfl
  have hdr:l.drop i=o::l.drop (i+1):=by
   rw[f03 hil];congr 1;exact(f0h.1 hu).2
  rw[hdr,List.filter_cons] at hf
  have ok:=k.ok
  obtain⟨hA,eA,okA,nA,xA,gA⟩:=jbt ok [.int .i64 0,.int .i64 0,.bool false,.int .i64 0,.int .i64 0] (jbd o) 48
  have kA:=k.keep okA (by omega) (gA _ k.cn)
  unfold jbd at xA eA
  rw[jai]
  unfold jvd qav
  by_cases e:o.kind=1
  .have c1:((o.kind:Int)=1)=True:=eq_true (by omega)
   rw[if_pos (decide_eq_true e)] at hf
   simp(disch:=first|omega|rfl) only[go_sem,jab,eq_true hlt,hix,jbd,eA,xA,c1]
   refine WC.imp (jvi (F:=F) okA kA.bw hu1 hu2 (B.none _ (by simp) _ _) (B.T _)) ?_
   rintro _ hB ⟨okB,nB,kB,gB⟩
   simp(disch:=first|omega|rfl) only[go_sem,jab,hs]
   exact ql5 hl ho d (i+1) (by omega) ⟨okB,kB,by have:=kA.cn;omega⟩ hf (fun hj x9 x10 x12 k' n' g'=>hQ hj x9 x10 x12 k' (by omega) (fun n h1 h2=>(g' n (by omega) h2).trans ((gB n h2).trans (gA n h1))))
  .have c1:((o.kind:Int)=1)=False:=eq_false (by omega)
   rw[if_neg (by simp[e])] at hf
   simp(disch:=first|omega|rfl) only[go_sem,jab,eq_true hlt,hix,jbd,eA,xA,c1,hs]
   exact ql5 hl ho d (i+1) (by omega) kA hf (fun hj x9 x10 x12 k' n' g'=>hQ hj x9 x10 x12 k' (by omega) (fun n h1 h2=>(g' n (by omega) h2).trans (gA n h1)))
theorem qsy {N c:Nat} {l:List Ms.Ins} (hl:l.length<=1000) (ho:∀ x∈l,x.ops.length<=6/\∀ o∈x.ops,o.value / 64<N/\o.value<=100000) {fin:List Nat} :
 ∀ (d i:Nat) (_:i+d=l.length) {hi:Hp} {ws:List Nat} (_:SB hi y N ws c) (_:(((l.drop i).map jx4).flatten).foldl jsb ws=fin) {x9 x10 x11 x12 x13 x14 x15 x17:AV}
  (hQ:∀ hj x9 x10 x11 x12 x13 x14 x15 x17,SB hj y N fin c->hi.next<=hj.next->(∀ n,n<hi.next->n≠c->hj.get n=hi.get n)->Q (.exit 4) (.mk [x0,x1,x2,x3,x4,x5,x6,x7,.s y,x9,x10,x11,x12,x13,x14,x15,.s (jae jc6 l),x17,vi l.length,vi l.length,x20,x21,x22,x23,x24,x25,x26,x27,x28,x29,x30] hj)),
  W F jve.loop (.mk [x0,x1,x2,x3,x4,x5,x6,x7,.s y,x9,x10,x11,x12,x13,x14,x15,.s (jae jc6 l),x17,vi l.length,vi i,x20,x21,x22,x23,x24,x25,x26,x27,x28,x29,x30] hi) Q
 | 0,i,hd,hi,ws,k,hf,x9,x10,x11,x12,x13,x14,x15,x17,hQ=>by
  obtain rfl:i=l.length:=by omega
  rw[f2c] at hf
  have hf':ws=fin:=hf
  subst hf'
  rw[jai]
  unfold jve
  simp(disch:=first|omega|rfl) only[go_sem,f0o]
  exact hQ hi _ _ _ _ _ _ _ _ k (f0f _) (fun _ _ _=>rfl)
 | d+1,i,hd,hi,ws,k,hf,x9,x10,x11,x12,x13,x14,x15,x17,hQ=>by
  have hil:i<l.length:=by omega
  have hlt:(i:Int)<(l.length:Int):=by omega
  have hs:(i:Int)+1=((i+1:Nat):Int):=by omega
  obtain⟨x,hu⟩:∃ u,l[i]?=some u:=⟨_,f0a hil⟩
  obtain⟨h6,hoL⟩:=ho x (f0b hu)
  have hix:=jag (enc:=jc6) (size:=3) hu rfl
  have hdr:l.drop i=x::l.drop (i+1):=by
   rw[f03 hil];congr 1;exact(f0h.1 hu).2
  rw[hdr,f2u,f1j,f2t] at hf
  have ok:=k.ok
  obtain⟨hA,eA,okA,nA,xA,gA⟩:=jbt ok [.int .i64 0,.nilSlice,.nilSlice] (jc6 x) 46
  have kA:=k.keep okA (by omega) (gA _ k.cn)
  have lo1:=jaf (enc:=jbd) (l:=x.ops)
  unfold jc6 at xA eA
  rw[jai]
  unfold jve qaw
  simp(disch:=first|omega|rfl) only[go_sem,jab,eq_true hlt,hix,jc6,eA,xA,lo1]
  refine ql5 B (l:=x.ops) (by omega) hoL (fin:=(jx4 x).foldl jsb ws) x.ops.length 0 (by omega) kA rfl (fun hj x9 x10 x12 kj nj gj=>?_)
  simp(disch:=first|omega|rfl) only[go_sem,jab,hs]
  exact qsy hl ho d (i+1) (by omega) kj hf (fun hk x9 x10 x11 x12 x13 x14 x15 x17 k' n' g'=>hQ hk x9 x10 x11 x12 x13 x14 x15 x17 k' (by omega) (fun n h1 h2=>(g' n (by omega) h2).trans ((gj n (by omega) h2).trans (gA n h1))))
theorem qsz {N c:Nat} {l:List Nat} (hl:l.length<=100000) (ho:∀ u∈l,u / 64<N/\u<=100000) {fin:List Nat} :
 ∀ (d i:Nat) (_:i+d=l.length) {hi:Hp} {ws:List Nat} (_:SB hi y N ws c) (_:(l.drop i).foldl jx1 ws=fin) {x3 x5:AV}
  (hQ:∀ hj x3 x5,SB hj y N fin c->hj.next=hi.next->(∀ n,n≠c->hj.get n=hi.get n)->Q (.exit 8) (.mk [x0,x1,x2,x3,.s (jae jal l),x5,vi l.length,vi l.length,.s y,x9,x10,x11,x12,x13,x14,x15,x16,x17,x18,x19,x20,x21,x22,x23,x24,x25,x26,x27,x28,x29,x30] hj)),
  W F jvf.loop (.mk [x0,x1,x2,x3,.s (jae jal l),x5,vi l.length,vi i,.s y,x9,x10,x11,x12,x13,x14,x15,x16,x17,x18,x19,x20,x21,x22,x23,x24,x25,x26,x27,x28,x29,x30] hi) Q
 | 0,i,hd,hi,ws,k,hf,x3,x5,hQ=>by
  obtain rfl:i=l.length:=by omega
  rw[f2c] at hf
  have hf':ws=fin:=hf
  subst hf'
  rw[jai]
  unfold jvf
  simp(disch:=first|omega|rfl) only[go_sem,f0o]
  exact hQ hi _ _ k rfl (fun _ _=>rfl)
 | d+1,i,hd,hi,ws,k,hf,x3,x5,hQ=>by
  have hil:i<l.length:=by omega
  have hlt:(i:Int)<(l.length:Int):=by omega
  have hs:(i:Int)+1=((i+1:Nat):Int):=by omega
  obtain⟨u,hu⟩:∃ u,l[i]?=some u:=⟨_,f0a hil⟩
  obtain⟨hu1,hu2⟩:=ho u (f0b hu)
  have hix:=jag (enc:=jal) (size:=1) hu rfl
  have hdr:l.drop i=u::l.drop (i+1):=by
   rw[f03 hil];congr 1;exact(f0h.1 hu).2
  rw[hdr] at hf
  have ok:=k.ok
  rw[jai]
  unfold jvf qax
  simp(disch:=first|omega|rfl) only[go_sem,eq_true hlt,hix,jal]
  refine WC.imp (qff (F:=F) ok k.bw hu1 hu2 (B.none _ (by simp) _ _) (B.T _)) ?_
  rintro _ hA ⟨okA,nA,kA,gA⟩
  simp(disch:=first|omega|rfl) only[go_sem,jab,hs]
  exact qsz hl ho d (i+1) (by omega) ⟨okA,kA,by have:=k.cn;omega⟩ hf (fun hj x3 x5 k' n' g'=>hQ hj x3 x5 k' (by omega) (fun n hn=>(g' n hn).trans (gA n hn)))
structure LvOk (f:Fc) (N:Nat):Prop where
 nb:f.blocks.length<=16
 nv:f.values.length<=10000
 hN:(f.values.length+63) / 64=N
 n1:1<=N
 blk:∀ b∈f.blocks,b.params.length<=5/\b.instrs.length<=40/\b.edges.length<=3/\(∀ u∈b.params,u<f.values.length)/\(∀ x∈b.instrs,x.ops.length<=6/\∀ o∈x.ops,o.value<f.values.length)/\∀ e∈b.edges,e.args.length<=5/\e.block<f.blocks.length/\∀ u∈e.args,u<f.values.length
theorem qbc {h:Hp} {f:Fc} {N p ci co:Nat} {ic oc:List Nat} {ins outs:List (List Nat)} (k:NS h f N p ci co ic oc ins outs) (lv:LvOk f N) {q:Nat} {b:Ms.Blk} (hb:f.blocks[q]?=some b) :
 WC F 42 [.s (.ptr p 0),vi q] h (fun u h'=>u=vb (j0w (ins.getD q []) (qe9 N f.values.length b (jmb ins b (outs.getD q []))))/\NS h' f N p ci co ic oc (ins.set q (jsc (ins.getD q []) (qe9 N f.values.length b (jmb ins b (outs.getD q []))))) (outs.set q (jmb ins b (outs.getD q [])))/\h.next<=h'.next/\∀ n,n<h.next->n∉ic++oc->h'.get n=h.get n):=by
 refine ja3 (B.none _ (by simp) _ _) ((B.T _).trans qxj) rfl ?_
 unfold qhw
 obtain⟨p1,p2,p3,p4,p5,p6⟩:=lv.blk b (f0b hb)
 have hnb:=lv.nb
 have hnv:=lv.nv
 have hN:=lv.hN
 have hn1:=lv.n1
 have dv:∀ {u:Nat},u<f.values.length->u / 64<N/\u<=100000:=fun {u} h=>by omega
 have hql:=(f0h.1 hb).1
 obtain⟨c,hc⟩:∃ c,oc[q]?=some c:=⟨_,f0a (by rw[k.lo];exact hql)⟩
 obtain⟨d,hd⟩:∃ d,ic[q]?=some d:=⟨_,f0a (by rw[k.li];exact hql)⟩
 have ok:=k.ok
 have xp:=k.xp
 have hix:=jag (enc:=jax) (size:=3) hb rfl
 obtain⟨hA,eA,okA,nA,xA,gA⟩:=jbt ok [.nilSlice,.nilSlice,.nilSlice] (jax b) 42
 have kA:=k.keep okA (by omega) (fun n hn=>gA n (k.lt n hn).2)
 have le:=jaf (enc:=jfl) (l:=b.edges)
 have li:=jaf (enc:=jc6) (l:=b.instrs)
 have lv':=jaf (enc:=jal) (l:=f.values)
 unfold jax at xA eA
 have hqo:q<outs.length:=by rw[k.mo];exact hql
 have hqi:q<ins.length:=by rw[k.mi];exact hql
 have hset:outs.set q (outs.getD q [])=outs:=by
  apply f1k
  intro j
  rw[f1s]
  by_cases e:q=j
  .subst e
   rw[if_pos rfl,if_pos hqo,f0c,f0a hqo]
   rfl
  .rw [if_neg e]
 simp(disch:=first|omega|rfl) only[go_sem,xp,hix,jax,eA,xA,le]
 refine qsx B hc (l:=b.edges) (by omega) (fun e he=>⟨by have:=(p6 e he).1;omega,(p6 e he).2.1,fun u hu=>dv ((p6 e he).2.2 u hu)⟩) (by omega) (fin:=jmb ins b (outs.getD q [])) b.edges.length 0 (by omega) (o:=outs.getD q []) (by rw[hset];exact kA) rfl (fun hB x20 x21 x22 x23 x24 x25 x27 kB nB gB=>?_)
 obtain⟨O,eO⟩:∃ O,jmb ins b (outs.getD q [])=O:=⟨_,rfl⟩
 rw[eO] at kB ⊢
 have okB:=kB.ok
 have xpB:=kB.xp
 have xoB:=kB.xo
 have hsl:=jhq (c:=co) (L:=f.blocks.length) (ex:=false) hql
 have hrs:=rdS (l:=oc.map (jb4 N)) (i:=q) (x:=jb4 N c) (ty:=80) (by rw[f0p,hc];rfl)
 have kc:=kB.bo q c hc
 rw[jb2 hqo,if_pos rfl] at kc
 have hcl:=(kB.lt c (by simp[f0b hc])).2
 have hcl0:=(k.lt c (by simp[f0b hc])).2
 have xBA:=(gB h.next (by omega) (by omega)).trans xA
 simp(disch:=first|omega|rfl) only[go_sem,xpB,xoB,hsl,hrs]
 refine WC.imp (ql3 (F:=F) okB kc hcl (by omega) (by omega) (B.none _ (by simp) _ _) (B.T _)) ?_
 rintro _ hC ⟨y,c',rfl,okC,nC,hc1,hc2,gC,kC⟩
 have xC:=(gC h.next (by omega)).trans xBA
 simp(disch:=first|omega|rfl) only[go_sem,xC,li]
 refine qsy B (l:=b.instrs) (c:=c') (N:=N) (by omega) (fun x hx=>⟨(p5 x hx).1,fun o ho=>dv ((p5 x hx).2 o ho)⟩) (fin:=(j3r b).foldl jsb O) b.instrs.length 0 (by omega) ⟨okC,kC,hc2⟩ rfl (fun hD x9 x10 x11 x12 x13 x14 x15 x17 kD nD gD=>?_)
 have okD:=kD.ok
 have kND:NS hD f N p ci co ic oc ins (outs.set q O):=kB.keep okD (by omega) (fun n hn=>by have:=(kB.lt n hn).2;rw[gD n (by omega) (by omega),gC n (by omega)])
 have xpD:=kND.xp
 have xD:=(gD h.next (by omega) (by omega)).trans xC
 have hmd:=fun(h:Hp)=>B.made h f b N hN hn1 hnv ⟨p1,p2,p4,p5⟩
 have hml:=WOk.puts (jck b) (jqd N)
 have hls:=fun(h:Hp)=>B.list h N f.values.length (jih N b) hml (by omega) (by omega)
 have ll:=jaf (enc:=jal) (l:=jbo (jih N b) f.values.length)
 simp(disch:=first|omega|rfl) only[go_sem,xpD,xD,qsv,jap (hmd _),lv',jap (hls _),ll]
 have hlm:∀ u∈jbo (jih N b) f.values.length,u<f.values.length:=fun u hu=>f2b.1 (f1t.1 hu).1
 have hll:(jbo (jih N b) f.values.length).length<=100000:=by
  have:=f3s (jbn (jih N b)) (List.range f.values.length)
  unfold jbo
  rw[List.length_range] at this
  omega
 refine qsz B (l:=jbo (jih N b) f.values.length) (c:=c') (N:=N) hll (fun u hu=>dv (hlm u hu)) (fin:=qe9 N f.values.length b O) (jbo (jih N b) f.values.length).length 0 (by omega) kD rfl (fun hE x3 x5 kE nE gE=>?_)
 obtain⟨I,eI⟩:∃ I,qe9 N f.values.length b O=I:=⟨_,rfl⟩
 rw[eI] at kE ⊢
 have okE:=kE.ok
 have kNE:NS hE f N p ci co ic oc ins (outs.set q O):=kND.keep okE (by omega) (fun n hn=>gE n (by have:=(kB.lt n hn).2;omega))
 have xpE:=kNE.xp
 have xiE:=kNE.xi
 have hsi:=jhq (c:=ci) (L:=f.blocks.length) (ex:=false) hql
 have hri:=rdS (l:=ic.map (jb4 N)) (i:=q) (x:=jb4 N d) (ty:=80) (by rw[f0p,hd];rfl)
 have kd:=kNE.bi q d hd
 have hdl:=(kB.lt d (by simp[f0b hd])).2
 have hdl0:=(k.lt d (by simp[f0b hd])).2
 simp(disch:=first|omega|rfl) only[go_sem,xpE,xiE,hsi,hri]
 refine WC.imp (qa6 (F:=F) okE kd kE.bw (by omega) (by omega) (B.none _ (by simp) _ _) (B.T _)) ?_
 rintro _ hF ⟨rfl,okF,nF,kF,gF⟩
 simp(disch:=first|omega|rfl) only[go_sem,qeg]
 refine⟨kNE.setI hd okF nF kF gF,by omega,fun n hn hni=>?_⟩
 have hnc:n≠c:=fun e=>hni (by simp[e,f0b hc])
 have hnd:n≠d:=fun e=>hni (by simp[e,f0b hd])
 rw[gF n hnd,gE n (by omega),gD n (by omega) (by omega),gC n (by omega),gB n (by omega) hnc,gA n hn]
end
end Go.Proofs.Ytehhjbfmjdlcjaa.Ev
