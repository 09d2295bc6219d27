/- The statement 'AllocSwap': calls run apart from the heap. Conditions: none. -/
import Derived.Test.YtmafghjodghgcaaGreatRQAllocSwap0
import Derived.KernelRfl
namespace Go.Proofs.YtmafghjodghgcaaGreat.allocSwap
open Go Go.Proofs.YtmafghjodghgcaaGreat.Ev
set_option maxRecDepth 100000
noncomputable def r0_0_0 : Row := .mk 18 [(.agg [(jl [[j0],[j0],[j0],[j0]]),(jl [[jn,(jl [[j1,(jl [[j2,j0,jt,j1,j0]]),jn],[j2,(jl [[j2,j1,jt,j1,j0]]),jn]]),(jl [[j1,(jl [[j0],[j1]])]])],[(jl [[j2],[(j 3)]]),(jl [[(j 5),(jl [[j1,j2,jf,j1,j0],[j1,(j 3),jf,j1,j0]]),jn]]),(jl [[j1,(jl [[(j 3)],[j2]])]])]])]),(.agg [j2,j2])] (.s j0)
theorem t0_0_0 : rowB G0 5000 r0_0_0 = true := by kernel_rfl
noncomputable def r0_0_1 : Row := .mk 18 [(.agg [(jl [[j0],[j0],[j0],[j0]]),(jl [[jn,(jl [[j1,(jl [[j2,j0,jt,j1,j0]]),jn],[j2,(jl [[j2,j1,jt,j1,j0]]),jn]]),(jl [[j1,(jl [[j0],[j1]])]])],[(jl [[j2],[(j 3)]]),(jl [[(j 5),(jl [[j1,j2,jf,j1,j0],[j1,(j 3),jf,j1,j0]]),jn]]),(jl [[j1,(jl [[(j 3)],[j2]])]])]])]),(.agg [(j 5),(j 5)])] (.s j0)
theorem t0_0_1 : rowB G0 5000 r0_0_1 = true := by kernel_rfl
noncomputable def r0_0_2 : Row := .mk 18 [(.agg [(jl [[j0],[j0],[j0],[j0]]),(jl [[jn,(jl [[j1,(jl [[j2,j0,jt,j1,j0]]),jn],[j2,(jl [[j2,j1,jt,j1,j0]]),jn]]),(jl [[j1,(jl [[j0],[j1]])]])],[(jl [[j2],[(j 3)]]),(jl [[(j 5),(jl [[j1,j2,jf,j1,j0],[j1,(j 3),jf,j1,j0]]),jn]]),(jl [[j1,(jl [[(j 3)],[j2]])]])]])]),(.agg [(j 8),(j 8)])] (.s j0)
theorem t0_0_2 : rowB G0 5000 r0_0_2 = true := by kernel_rfl
noncomputable def r0_0_3 : Row := .mk 18 [(.agg [(jl [[j1],[j1],[j1],[j1]]),(jl [[jn,(jl [[j1,(jl [[j2,j0,jt,j1,j0]]),jn],[j2,(jl [[j2,j1,jt,j1,j0]]),jn]]),(jl [[j1,(jl [[j0],[j1]])]])],[(jl [[j2],[(j 3)]]),(jl [[(j 5),(jl [[j1,j2,jf,j1,j0],[j1,(j 3),jf,j1,j0]]),jn]]),(jl [[j1,(jl [[(j 3)],[j2]])]])]])]),(.agg [j2,j2])] (.s j0)
theorem t0_0_3 : rowB G0 5000 r0_0_3 = true := by kernel_rfl
noncomputable def r0_0_4 : Row := .mk 18 [(.agg [(jl [[j1],[j1],[j1],[j1]]),(jl [[jn,(jl [[j1,(jl [[j2,j0,jt,j1,j0]]),jn],[j2,(jl [[j2,j1,jt,j1,j0]]),jn]]),(jl [[j1,(jl [[j0],[j1]])]])],[(jl [[j2],[(j 3)]]),(jl [[(j 5),(jl [[j1,j2,jf,j1,j0],[j1,(j 3),jf,j1,j0]]),jn]]),(jl [[j1,(jl [[(j 3)],[j2]])]])]])]),(.agg [(j 5),(j 5)])] (.s j0)
theorem t0_0_4 : rowB G0 5000 r0_0_4 = true := by kernel_rfl
noncomputable def r0_0_5 : Row := .mk 18 [(.agg [(jl [[j1],[j1],[j1],[j1]]),(jl [[jn,(jl [[j1,(jl [[j2,j0,jt,j1,j0]]),jn],[j2,(jl [[j2,j1,jt,j1,j0]]),jn]]),(jl [[j1,(jl [[j0],[j1]])]])],[(jl [[j2],[(j 3)]]),(jl [[(j 5),(jl [[j1,j2,jf,j1,j0],[j1,(j 3),jf,j1,j0]]),jn]]),(jl [[j1,(jl [[(j 3)],[j2]])]])]])]),(.agg [(j 8),(j 8)])] (.s j0)
theorem t0_0_5 : rowB G0 5000 r0_0_5 = true := by kernel_rfl
noncomputable def r0_0_6 : Row := .mk 18 [(.agg [(jl [[j0],[j0],[j0],[j0]]),(jl [[jn,(jl [[j1,(jl [[j2,j0,jt,j1,j0]]),jn],[j2,(jl [[j2,j1,jt,j1,j0]]),jn]]),(jl [[j1,(jl [[j0],[j1]])]])],[(jl [[j2],[(j 3)]]),(jl [[(j 5),(jl [[j1,j2,jf,j1,j0],[j1,(j 3),jf,j1,j0]]),jn]]),(jl [[j1,(jl [[(j 3)],[j2]])]])]])]),(.agg [(j 3),(j 3)])] (.s j0)
theorem t0_0_6 : rowB G0 5000 r0_0_6 = true := by kernel_rfl
noncomputable def r0_0_7 : Row := .mk 18 [(.agg [(jl [[j0],[j0],[j0],[j0]]),(jl [[jn,(jl [[j1,(jl [[j2,j0,jt,j1,j0]]),jn],[j2,(jl [[j2,j1,jt,j1,j0]]),jn]]),(jl [[j1,(jl [[j0],[j1]])]])],[(jl [[j2],[(j 3)]]),(jl [[(j 5),(jl [[j1,j2,jf,j1,j0],[j1,(j 3),jf,j1,j0]]),jn]]),(jl [[j1,(jl [[(j 3)],[j2]])]])]])]),(.agg [(j 6),(j 6)])] (.s j0)
theorem t0_0_7 : rowB G0 5000 r0_0_7 = true := by kernel_rfl
noncomputable def r0_0_8 : Row := .mk 18 [(.agg [(jl [[j0],[j0],[j0],[j0]]),(jl [[jn,(jl [[j1,(jl [[j2,j0,jt,j1,j0]]),jn],[j2,(jl [[j2,j1,jt,j1,j0]]),jn]]),(jl [[j1,(jl [[j0],[j1]])]])],[(jl [[j2],[(j 3)]]),(jl [[(j 5),(jl [[j1,j2,jf,j1,j0],[j1,(j 3),jf,j1,j0]]),jn]]),(jl [[j1,(jl [[(j 3)],[j2]])]])]])]),(.agg [(j 9),(j 9)])] (.s j0)
theorem t0_0_8 : rowB G0 5000 r0_0_8 = true := by kernel_rfl
noncomputable def r0_0_9 : Row := .mk 18 [(.agg [(jl [[j1],[j1],[j1],[j1]]),(jl [[jn,(jl [[j1,(jl [[j2,j0,jt,j1,j0]]),jn],[j2,(jl [[j2,j1,jt,j1,j0]]),jn]]),(jl [[j1,(jl [[j0],[j1]])]])],[(jl [[j2],[(j 3)]]),(jl [[(j 5),(jl [[j1,j2,jf,j1,j0],[j1,(j 3),jf,j1,j0]]),jn]]),(jl [[j1,(jl [[(j 3)],[j2]])]])]])]),(.agg [(j 3),(j 3)])] (.s j0)
theorem t0_0_9 : rowB G0 5000 r0_0_9 = true := by kernel_rfl
noncomputable def r0_0_10 : Row := .mk 18 [(.agg [(jl [[j1],[j1],[j1],[j1]]),(jl [[jn,(jl [[j1,(jl [[j2,j0,jt,j1,j0]]),jn],[j2,(jl [[j2,j1,jt,j1,j0]]),jn]]),(jl [[j1,(jl [[j0],[j1]])]])],[(jl [[j2],[(j 3)]]),(jl [[(j 5),(jl [[j1,j2,jf,j1,j0],[j1,(j 3),jf,j1,j0]]),jn]]),(jl [[j1,(jl [[(j 3)],[j2]])]])]])]),(.agg [(j 6),(j 6)])] (.s j0)
theorem t0_0_10 : rowB G0 5000 r0_0_10 = true := by kernel_rfl
noncomputable def r0_0_11 : Row := .mk 18 [(.agg [(jl [[j1],[j1],[j1],[j1]]),(jl [[jn,(jl [[j1,(jl [[j2,j0,jt,j1,j0]]),jn],[j2,(jl [[j2,j1,jt,j1,j0]]),jn]]),(jl [[j1,(jl [[j0],[j1]])]])],[(jl [[j2],[(j 3)]]),(jl [[(j 5),(jl [[j1,j2,jf,j1,j0],[j1,(j 3),jf,j1,j0]]),jn]]),(jl [[j1,(jl [[(j 3)],[j2]])]])]])]),(.agg [(j 9),(j 9)])] (.s j0)
theorem t0_0_11 : rowB G0 5000 r0_0_11 = true := by kernel_rfl
noncomputable def r0_0_12 : Row := .mk 18 [(.agg [(jl [[j0],[j0],[j0],[j0]]),(jl [[jn,(jl [[j1,(jl [[j2,j0,jt,j1,j0]]),jn],[j2,(jl [[j2,j1,jt,j1,j0]]),jn]]),(jl [[j1,(jl [[j0],[j1]])]])],[(jl [[j2],[(j 3)]]),(jl [[(j 5),(jl [[j1,j2,jf,j1,j0],[j1,(j 3),jf,j1,j0]]),jn]]),(jl [[j1,(jl [[(j 3)],[j2]])]])]])]),(.agg [(j 4),(j 4)])] (.s j0)
theorem t0_0_12 : rowB G0 5000 r0_0_12 = true := by kernel_rfl
noncomputable def r0_0_13 : Row := .mk 18 [(.agg [(jl [[j0],[j0],[j0],[j0]]),(jl [[jn,(jl [[j1,(jl [[j2,j0,jt,j1,j0]]),jn],[j2,(jl [[j2,j1,jt,j1,j0]]),jn]]),(jl [[j1,(jl [[j0],[j1]])]])],[(jl [[j2],[(j 3)]]),(jl [[(j 5),(jl [[j1,j2,jf,j1,j0],[j1,(j 3),jf,j1,j0]]),jn]]),(jl [[j1,(jl [[(j 3)],[j2]])]])]])]),(.agg [(j 7),(j 7)])] (.s j0)
theorem t0_0_13 : rowB G0 5000 r0_0_13 = true := by kernel_rfl
noncomputable def r0_0_14 : Row := .mk 18 [(.agg [(jl [[j0],[j0],[j0],[j0]]),(jl [[jn,(jl [[j1,(jl [[j2,j0,jt,j1,j0]]),jn],[j2,(jl [[j2,j1,jt,j1,j0]]),jn]]),(jl [[j1,(jl [[j0],[j1]])]])],[(jl [[j2],[(j 3)]]),(jl [[(j 5),(jl [[j1,j2,jf,j1,j0],[j1,(j 3),jf,j1,j0]]),jn]]),(jl [[j1,(jl [[(j 3)],[j2]])]])]])]),(.agg [(j 10),(j 10)])] (.s j0)
theorem t0_0_14 : rowB G0 5000 r0_0_14 = true := by kernel_rfl
noncomputable def r0_0_15 : Row := .mk 18 [(.agg [(jl [[j1],[j1],[j1],[j1]]),(jl [[jn,(jl [[j1,(jl [[j2,j0,jt,j1,j0]]),jn],[j2,(jl [[j2,j1,jt,j1,j0]]),jn]]),(jl [[j1,(jl [[j0],[j1]])]])],[(jl [[j2],[(j 3)]]),(jl [[(j 5),(jl [[j1,j2,jf,j1,j0],[j1,(j 3),jf,j1,j0]]),jn]]),(jl [[j1,(jl [[(j 3)],[j2]])]])]])]),(.agg [(j 4),(j 4)])] (.s j0)
theorem t0_0_15 : rowB G0 5000 r0_0_15 = true := by kernel_rfl
noncomputable def r0_0_16 : Row := .mk 18 [(.agg [(jl [[j1],[j1],[j1],[j1]]),(jl [[jn,(jl [[j1,(jl [[j2,j0,jt,j1,j0]]),jn],[j2,(jl [[j2,j1,jt,j1,j0]]),jn]]),(jl [[j1,(jl [[j0],[j1]])]])],[(jl [[j2],[(j 3)]]),(jl [[(j 5),(jl [[j1,j2,jf,j1,j0],[j1,(j 3),jf,j1,j0]]),jn]]),(jl [[j1,(jl [[(j 3)],[j2]])]])]])]),(.agg [(j 7),(j 7)])] (.s j0)
theorem t0_0_16 : rowB G0 5000 r0_0_16 = true := by kernel_rfl
noncomputable def r0_0_17 : Row := .mk 18 [(.agg [(jl [[j1],[j1],[j1],[j1]]),(jl [[jn,(jl [[j1,(jl [[j2,j0,jt,j1,j0]]),jn],[j2,(jl [[j2,j1,jt,j1,j0]]),jn]]),(jl [[j1,(jl [[j0],[j1]])]])],[(jl [[j2],[(j 3)]]),(jl [[(j 5),(jl [[j1,j2,jf,j1,j0],[j1,(j 3),jf,j1,j0]]),jn]]),(jl [[j1,(jl [[(j 3)],[j2]])]])]])]),(.agg [(j 10),(j 10)])] (.s j0)
theorem t0_0_17 : rowB G0 5000 r0_0_17 = true := by kernel_rfl
noncomputable def rows0_0 : List Row := [r0_0_0,r0_0_1,r0_0_2,r0_0_3,r0_0_4,r0_0_5,r0_0_6,r0_0_7,r0_0_8,r0_0_9,r0_0_10,r0_0_11,r0_0_12,r0_0_13,r0_0_14,r0_0_15,r0_0_16,r0_0_17]
theorem ok0_0 : ∀ e ∈ rows0_0,RowOk Tryz.prog tys e := rowsHold e0 (show allR G0 5000 rows0_0 from ⟨t0_0_0,t0_0_1,t0_0_2,t0_0_3,t0_0_4,t0_0_5,t0_0_6,t0_0_7,t0_0_8,t0_0_9,t0_0_10,t0_0_11,t0_0_12,t0_0_13,t0_0_14,t0_0_15,t0_0_16,t0_0_17,trivial⟩)
end Go.Proofs.YtmafghjodghgcaaGreat.allocSwap
