/- The statement 'AllocSwap': calls run apart from the heap. Conditions: none. -/
import Derived.Test.YtmafghjodghgcaaGreatRQAllocSwap1
import Derived.KernelRfl
namespace Go.Proofs.YtmafghjodghgcaaGreat.allocSwap
open Go Go.Proofs.YtmafghjodghgcaaGreat.Ev
set_option maxRecDepth 100000
noncomputable def r1_2_0 : Row := .mk 16 [(.agg [(jl [[j0],[j0],[j0],[j0]]),(jl [[jn,(jl [[j1,(jl [[j2,j0,jt,j1,j0]]),jn],[j2,(jl [[j2,j1,jt,j1,j0]]),jn]]),(jl [[j1,(jl [[j0],[j1]])]])],[(jl [[j2],[(j 3)]]),(jl [[(j 5),(jl [[j1,j2,jf,j1,j0],[j1,(j 3),jf,j1,j0]]),jn]]),(jl [[j1,(jl [[(j 3)],[j2]])]])]])]),(.agg [(j 4),(j 4)])] (.tup [(false,[(jl [[j2],[j2],[(j 24)],[(j 24)]])]),(false,[j0])])
theorem t1_2_0 : rowB G1 5000 r1_2_0 = true := by kernel_rfl
noncomputable def r1_2_1 : Row := .mk 71 [(.agg [(jl [[j0],[j0],[j0],[j0]]),(jl [[jn,(jl [[j1,(jl [[j2,j0,jt,j1,j0]]),jn],[j2,(jl [[j2,j1,jt,j1,j0]]),jn]]),(jl [[j1,(jl [[j0],[j1]])]])],[(jl [[j2],[(j 3)]]),(jl [[(j 5),(jl [[j1,j2,jf,j1,j0],[j1,(j 3),jf,j1,j0]]),jn]]),(jl [[j1,(jl [[(j 3)],[j2]])]])]])]),(.agg [(j 4),(j 4)])] (.tup [(false,[jn]),(false,[j0])])
theorem t1_2_1 : rowB G1 5000 r1_2_1 = true := by kernel_rfl
noncomputable def r1_2_2 : Row := .mk 72 [(.agg [(jl [[j0],[j0],[j0],[j0]]),(jl [[jn,(jl [[j1,(jl [[j2,j0,jt,j1,j0]]),jn],[j2,(jl [[j2,j1,jt,j1,j0]]),jn]]),(jl [[j1,(jl [[j0],[j1]])]])],[(jl [[j2],[(j 3)]]),(jl [[(j 5),(jl [[j1,j2,jf,j1,j0],[j1,(j 3),jf,j1,j0]]),jn]]),(jl [[j1,(jl [[(j 3)],[j2]])]])]])]),(.agg [(j 4),(j 4)])] (.tup [(false,[(jl [[j0],[j1],[j0],[j1]])]),(false,[j0])])
theorem t1_2_2 : rowB G1 5000 r1_2_2 = true := by kernel_rfl
noncomputable def r1_2_3 : Row := .mk 16 [(.agg [(jl [[j0],[j0],[j0],[j0]]),(jl [[jn,(jl [[j1,(jl [[j2,j0,jt,j1,j0]]),jn],[j2,(jl [[j2,j1,jt,j1,j0]]),jn]]),(jl [[j1,(jl [[j0],[j1]])]])],[(jl [[j2],[(j 3)]]),(jl [[(j 5),(jl [[j1,j2,jf,j1,j0],[j1,(j 3),jf,j1,j0]]),jn]]),(jl [[j1,(jl [[(j 3)],[j2]])]])]])]),(.agg [(j 7),(j 7)])] (.tup [(false,[(jl [[j2],[j2],[(j 24)],[(j 24)]])]),(false,[j0])])
theorem t1_2_3 : rowB G1 5000 r1_2_3 = true := by kernel_rfl
noncomputable def r1_2_4 : Row := .mk 71 [(.agg [(jl [[j0],[j0],[j0],[j0]]),(jl [[jn,(jl [[j1,(jl [[j2,j0,jt,j1,j0]]),jn],[j2,(jl [[j2,j1,jt,j1,j0]]),jn]]),(jl [[j1,(jl [[j0],[j1]])]])],[(jl [[j2],[(j 3)]]),(jl [[(j 5),(jl [[j1,j2,jf,j1,j0],[j1,(j 3),jf,j1,j0]]),jn]]),(jl [[j1,(jl [[(j 3)],[j2]])]])]])]),(.agg [(j 7),(j 7)])] (.tup [(false,[jn]),(false,[j0])])
theorem t1_2_4 : rowB G1 5000 r1_2_4 = true := by kernel_rfl
noncomputable def r1_2_5 : Row := .mk 72 [(.agg [(jl [[j0],[j0],[j0],[j0]]),(jl [[jn,(jl [[j1,(jl [[j2,j0,jt,j1,j0]]),jn],[j2,(jl [[j2,j1,jt,j1,j0]]),jn]]),(jl [[j1,(jl [[j0],[j1]])]])],[(jl [[j2],[(j 3)]]),(jl [[(j 5),(jl [[j1,j2,jf,j1,j0],[j1,(j 3),jf,j1,j0]]),jn]]),(jl [[j1,(jl [[(j 3)],[j2]])]])]])]),(.agg [(j 7),(j 7)])] (.tup [(false,[(jl [[j0],[j1],[j0],[j1]])]),(false,[j0])])
theorem t1_2_5 : rowB G1 5000 r1_2_5 = true := by kernel_rfl
noncomputable def r1_2_6 : Row := .mk 16 [(.agg [(jl [[j0],[j0],[j0],[j0]]),(jl [[jn,(jl [[j1,(jl [[j2,j0,jt,j1,j0]]),jn],[j2,(jl [[j2,j1,jt,j1,j0]]),jn]]),(jl [[j1,(jl [[j0],[j1]])]])],[(jl [[j2],[(j 3)]]),(jl [[(j 5),(jl [[j1,j2,jf,j1,j0],[j1,(j 3),jf,j1,j0]]),jn]]),(jl [[j1,(jl [[(j 3)],[j2]])]])]])]),(.agg [(j 10),(j 10)])] (.tup [(false,[(jl [[j2],[j2],[(j 24)],[(j 24)]])]),(false,[j0])])
theorem t1_2_6 : rowB G1 5000 r1_2_6 = true := by kernel_rfl
noncomputable def r1_2_7 : Row := .mk 71 [(.agg [(jl [[j0],[j0],[j0],[j0]]),(jl [[jn,(jl [[j1,(jl [[j2,j0,jt,j1,j0]]),jn],[j2,(jl [[j2,j1,jt,j1,j0]]),jn]]),(jl [[j1,(jl [[j0],[j1]])]])],[(jl [[j2],[(j 3)]]),(jl [[(j 5),(jl [[j1,j2,jf,j1,j0],[j1,(j 3),jf,j1,j0]]),jn]]),(jl [[j1,(jl [[(j 3)],[j2]])]])]])]),(.agg [(j 10),(j 10)])] (.tup [(false,[jn]),(false,[j0])])
theorem t1_2_7 : rowB G1 5000 r1_2_7 = true := by kernel_rfl
noncomputable def r1_2_8 : Row := .mk 72 [(.agg [(jl [[j0],[j0],[j0],[j0]]),(jl [[jn,(jl [[j1,(jl [[j2,j0,jt,j1,j0]]),jn],[j2,(jl [[j2,j1,jt,j1,j0]]),jn]]),(jl [[j1,(jl [[j0],[j1]])]])],[(jl [[j2],[(j 3)]]),(jl [[(j 5),(jl [[j1,j2,jf,j1,j0],[j1,(j 3),jf,j1,j0]]),jn]]),(jl [[j1,(jl [[(j 3)],[j2]])]])]])]),(.agg [(j 10),(j 10)])] (.tup [(false,[(jl [[j0],[j1],[j0],[j1]])]),(false,[j0])])
theorem t1_2_8 : rowB G1 5000 r1_2_8 = true := by kernel_rfl
noncomputable def r1_2_9 : Row := .mk 16 [(.agg [(jl [[j1],[j1],[j1],[j1]]),(jl [[jn,(jl [[j1,(jl [[j2,j0,jt,j1,j0]]),jn],[j2,(jl [[j2,j1,jt,j1,j0]]),jn]]),(jl [[j1,(jl [[j0],[j1]])]])],[(jl [[j2],[(j 3)]]),(jl [[(j 5),(jl [[j1,j2,jf,j1,j0],[j1,(j 3),jf,j1,j0]]),jn]]),(jl [[j1,(jl [[(j 3)],[j2]])]])]])]),(.agg [(j 4),(j 4)])] (.tup [(false,[(jl [[j2],[j2],[(j 24)],[(j 24)]])]),(false,[j0])])
theorem t1_2_9 : rowB G1 5000 r1_2_9 = true := by kernel_rfl
noncomputable def r1_2_10 : Row := .mk 71 [(.agg [(jl [[j1],[j1],[j1],[j1]]),(jl [[jn,(jl [[j1,(jl [[j2,j0,jt,j1,j0]]),jn],[j2,(jl [[j2,j1,jt,j1,j0]]),jn]]),(jl [[j1,(jl [[j0],[j1]])]])],[(jl [[j2],[(j 3)]]),(jl [[(j 5),(jl [[j1,j2,jf,j1,j0],[j1,(j 3),jf,j1,j0]]),jn]]),(jl [[j1,(jl [[(j 3)],[j2]])]])]])]),(.agg [(j 4),(j 4)])] (.tup [(false,[jn]),(false,[j0])])
theorem t1_2_10 : rowB G1 5000 r1_2_10 = true := by kernel_rfl
noncomputable def r1_2_11 : Row := .mk 72 [(.agg [(jl [[j1],[j1],[j1],[j1]]),(jl [[jn,(jl [[j1,(jl [[j2,j0,jt,j1,j0]]),jn],[j2,(jl [[j2,j1,jt,j1,j0]]),jn]]),(jl [[j1,(jl [[j0],[j1]])]])],[(jl [[j2],[(j 3)]]),(jl [[(j 5),(jl [[j1,j2,jf,j1,j0],[j1,(j 3),jf,j1,j0]]),jn]]),(jl [[j1,(jl [[(j 3)],[j2]])]])]])]),(.agg [(j 4),(j 4)])] (.tup [(false,[(jl [[j0],[j1],[j0],[j1]])]),(false,[j0])])
theorem t1_2_11 : rowB G1 5000 r1_2_11 = true := by kernel_rfl
noncomputable def r1_2_12 : Row := .mk 16 [(.agg [(jl [[j1],[j1],[j1],[j1]]),(jl [[jn,(jl [[j1,(jl [[j2,j0,jt,j1,j0]]),jn],[j2,(jl [[j2,j1,jt,j1,j0]]),jn]]),(jl [[j1,(jl [[j0],[j1]])]])],[(jl [[j2],[(j 3)]]),(jl [[(j 5),(jl [[j1,j2,jf,j1,j0],[j1,(j 3),jf,j1,j0]]),jn]]),(jl [[j1,(jl [[(j 3)],[j2]])]])]])]),(.agg [(j 7),(j 7)])] (.tup [(false,[(jl [[j2],[j2],[(j 24)],[(j 24)]])]),(false,[j0])])
theorem t1_2_12 : rowB G1 5000 r1_2_12 = true := by kernel_rfl
noncomputable def r1_2_13 : Row := .mk 71 [(.agg [(jl [[j1],[j1],[j1],[j1]]),(jl [[jn,(jl [[j1,(jl [[j2,j0,jt,j1,j0]]),jn],[j2,(jl [[j2,j1,jt,j1,j0]]),jn]]),(jl [[j1,(jl [[j0],[j1]])]])],[(jl [[j2],[(j 3)]]),(jl [[(j 5),(jl [[j1,j2,jf,j1,j0],[j1,(j 3),jf,j1,j0]]),jn]]),(jl [[j1,(jl [[(j 3)],[j2]])]])]])]),(.agg [(j 7),(j 7)])] (.tup [(false,[jn]),(false,[j0])])
theorem t1_2_13 : rowB G1 5000 r1_2_13 = true := by kernel_rfl
noncomputable def r1_2_14 : Row := .mk 72 [(.agg [(jl [[j1],[j1],[j1],[j1]]),(jl [[jn,(jl [[j1,(jl [[j2,j0,jt,j1,j0]]),jn],[j2,(jl [[j2,j1,jt,j1,j0]]),jn]]),(jl [[j1,(jl [[j0],[j1]])]])],[(jl [[j2],[(j 3)]]),(jl [[(j 5),(jl [[j1,j2,jf,j1,j0],[j1,(j 3),jf,j1,j0]]),jn]]),(jl [[j1,(jl [[(j 3)],[j2]])]])]])]),(.agg [(j 7),(j 7)])] (.tup [(false,[(jl [[j0],[j1],[j0],[j1]])]),(false,[j0])])
theorem t1_2_14 : rowB G1 5000 r1_2_14 = true := by kernel_rfl
noncomputable def r1_2_15 : Row := .mk 16 [(.agg [(jl [[j1],[j1],[j1],[j1]]),(jl [[jn,(jl [[j1,(jl [[j2,j0,jt,j1,j0]]),jn],[j2,(jl [[j2,j1,jt,j1,j0]]),jn]]),(jl [[j1,(jl [[j0],[j1]])]])],[(jl [[j2],[(j 3)]]),(jl [[(j 5),(jl [[j1,j2,jf,j1,j0],[j1,(j 3),jf,j1,j0]]),jn]]),(jl [[j1,(jl [[(j 3)],[j2]])]])]])]),(.agg [(j 10),(j 10)])] (.tup [(false,[(jl [[j2],[j2],[(j 24)],[(j 24)]])]),(false,[j0])])
theorem t1_2_15 : rowB G1 5000 r1_2_15 = true := by kernel_rfl
noncomputable def r1_2_16 : Row := .mk 71 [(.agg [(jl [[j1],[j1],[j1],[j1]]),(jl [[jn,(jl [[j1,(jl [[j2,j0,jt,j1,j0]]),jn],[j2,(jl [[j2,j1,jt,j1,j0]]),jn]]),(jl [[j1,(jl [[j0],[j1]])]])],[(jl [[j2],[(j 3)]]),(jl [[(j 5),(jl [[j1,j2,jf,j1,j0],[j1,(j 3),jf,j1,j0]]),jn]]),(jl [[j1,(jl [[(j 3)],[j2]])]])]])]),(.agg [(j 10),(j 10)])] (.tup [(false,[jn]),(false,[j0])])
theorem t1_2_16 : rowB G1 5000 r1_2_16 = true := by kernel_rfl
noncomputable def r1_2_17 : Row := .mk 72 [(.agg [(jl [[j1],[j1],[j1],[j1]]),(jl [[jn,(jl [[j1,(jl [[j2,j0,jt,j1,j0]]),jn],[j2,(jl [[j2,j1,jt,j1,j0]]),jn]]),(jl [[j1,(jl [[j0],[j1]])]])],[(jl [[j2],[(j 3)]]),(jl [[(j 5),(jl [[j1,j2,jf,j1,j0],[j1,(j 3),jf,j1,j0]]),jn]]),(jl [[j1,(jl [[(j 3)],[j2]])]])]])]),(.agg [(j 10),(j 10)])] (.tup [(false,[(jl [[j0],[j1],[j0],[j1]])]),(false,[j0])])
theorem t1_2_17 : rowB G1 5000 r1_2_17 = true := by kernel_rfl
noncomputable def rows1_2 : List Row := [r1_2_0,r1_2_1,r1_2_2,r1_2_3,r1_2_4,r1_2_5,r1_2_6,r1_2_7,r1_2_8,r1_2_9,r1_2_10,r1_2_11,r1_2_12,r1_2_13,r1_2_14,r1_2_15,r1_2_16,r1_2_17]
theorem ok1_2 : ∀ e ∈ rows1_2,RowOk Tryz.prog tys e := rowsHold e1 (show allR G1 5000 rows1_2 from ⟨t1_2_0,t1_2_1,t1_2_2,t1_2_3,t1_2_4,t1_2_5,t1_2_6,t1_2_7,t1_2_8,t1_2_9,t1_2_10,t1_2_11,t1_2_12,t1_2_13,t1_2_14,t1_2_15,t1_2_16,t1_2_17,trivial⟩)
end Go.Proofs.YtmafghjodghgcaaGreat.allocSwap
