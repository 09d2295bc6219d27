/- The statement 'AllocSwap': calls run apart from the heap. Conditions: none. -/
import Derived.Test.YtmafghjodghgcaaGreatRQAllocSwap1
import Derived.KernelRfl
namespace Go.Proofs.YtmafghjodghgcaaGreat.allocSwap
open Go Go.Proofs.YtmafghjodghgcaaGreat.Ev
set_option maxRecDepth 100000
noncomputable def r1_1_0 : Row := .mk 16 [(.agg [(jl [[j0],[j0],[j0],[j0]]),(jl [[jn,(jl [[j1,(jl [[j2,j0,jt,j1,j0]]),jn],[j2,(jl [[j2,j1,jt,j1,j0]]),jn]]),(jl [[j1,(jl [[j0],[j1]])]])],[(jl [[j2],[(j 3)]]),(jl [[(j 5),(jl [[j1,j2,jf,j1,j0],[j1,(j 3),jf,j1,j0]]),jn]]),(jl [[j1,(jl [[(j 3)],[j2]])]])]])]),(.agg [(j 3),(j 3)])] (.tup [(false,[(jl [[j2],[j2],[(j 24)],[(j 24)]])]),(false,[j0])])
theorem t1_1_0 : rowB G1 5000 r1_1_0 = true := by kernel_rfl
noncomputable def r1_1_1 : Row := .mk 71 [(.agg [(jl [[j0],[j0],[j0],[j0]]),(jl [[jn,(jl [[j1,(jl [[j2,j0,jt,j1,j0]]),jn],[j2,(jl [[j2,j1,jt,j1,j0]]),jn]]),(jl [[j1,(jl [[j0],[j1]])]])],[(jl [[j2],[(j 3)]]),(jl [[(j 5),(jl [[j1,j2,jf,j1,j0],[j1,(j 3),jf,j1,j0]]),jn]]),(jl [[j1,(jl [[(j 3)],[j2]])]])]])]),(.agg [(j 3),(j 3)])] (.tup [(false,[jn]),(false,[j0])])
theorem t1_1_1 : rowB G1 5000 r1_1_1 = true := by kernel_rfl
noncomputable def r1_1_2 : Row := .mk 72 [(.agg [(jl [[j0],[j0],[j0],[j0]]),(jl [[jn,(jl [[j1,(jl [[j2,j0,jt,j1,j0]]),jn],[j2,(jl [[j2,j1,jt,j1,j0]]),jn]]),(jl [[j1,(jl [[j0],[j1]])]])],[(jl [[j2],[(j 3)]]),(jl [[(j 5),(jl [[j1,j2,jf,j1,j0],[j1,(j 3),jf,j1,j0]]),jn]]),(jl [[j1,(jl [[(j 3)],[j2]])]])]])]),(.agg [(j 3),(j 3)])] (.tup [(false,[(jl [[j0],[j1],[j0],[j1]])]),(false,[j0])])
theorem t1_1_2 : rowB G1 5000 r1_1_2 = true := by kernel_rfl
noncomputable def r1_1_3 : Row := .mk 16 [(.agg [(jl [[j0],[j0],[j0],[j0]]),(jl [[jn,(jl [[j1,(jl [[j2,j0,jt,j1,j0]]),jn],[j2,(jl [[j2,j1,jt,j1,j0]]),jn]]),(jl [[j1,(jl [[j0],[j1]])]])],[(jl [[j2],[(j 3)]]),(jl [[(j 5),(jl [[j1,j2,jf,j1,j0],[j1,(j 3),jf,j1,j0]]),jn]]),(jl [[j1,(jl [[(j 3)],[j2]])]])]])]),(.agg [(j 6),(j 6)])] (.tup [(false,[(jl [[j2],[j2],[(j 24)],[(j 24)]])]),(false,[j0])])
theorem t1_1_3 : rowB G1 5000 r1_1_3 = true := by kernel_rfl
noncomputable def r1_1_4 : Row := .mk 71 [(.agg [(jl [[j0],[j0],[j0],[j0]]),(jl [[jn,(jl [[j1,(jl [[j2,j0,jt,j1,j0]]),jn],[j2,(jl [[j2,j1,jt,j1,j0]]),jn]]),(jl [[j1,(jl [[j0],[j1]])]])],[(jl [[j2],[(j 3)]]),(jl [[(j 5),(jl [[j1,j2,jf,j1,j0],[j1,(j 3),jf,j1,j0]]),jn]]),(jl [[j1,(jl [[(j 3)],[j2]])]])]])]),(.agg [(j 6),(j 6)])] (.tup [(false,[jn]),(false,[j0])])
theorem t1_1_4 : rowB G1 5000 r1_1_4 = true := by kernel_rfl
noncomputable def r1_1_5 : Row := .mk 72 [(.agg [(jl [[j0],[j0],[j0],[j0]]),(jl [[jn,(jl [[j1,(jl [[j2,j0,jt,j1,j0]]),jn],[j2,(jl [[j2,j1,jt,j1,j0]]),jn]]),(jl [[j1,(jl [[j0],[j1]])]])],[(jl [[j2],[(j 3)]]),(jl [[(j 5),(jl [[j1,j2,jf,j1,j0],[j1,(j 3),jf,j1,j0]]),jn]]),(jl [[j1,(jl [[(j 3)],[j2]])]])]])]),(.agg [(j 6),(j 6)])] (.tup [(false,[(jl [[j0],[j1],[j0],[j1]])]),(false,[j0])])
theorem t1_1_5 : rowB G1 5000 r1_1_5 = true := by kernel_rfl
noncomputable def r1_1_6 : Row := .mk 16 [(.agg [(jl [[j0],[j0],[j0],[j0]]),(jl [[jn,(jl [[j1,(jl [[j2,j0,jt,j1,j0]]),jn],[j2,(jl [[j2,j1,jt,j1,j0]]),jn]]),(jl [[j1,(jl [[j0],[j1]])]])],[(jl [[j2],[(j 3)]]),(jl [[(j 5),(jl [[j1,j2,jf,j1,j0],[j1,(j 3),jf,j1,j0]]),jn]]),(jl [[j1,(jl [[(j 3)],[j2]])]])]])]),(.agg [(j 9),(j 9)])] (.tup [(false,[(jl [[j2],[j2],[(j 24)],[(j 24)]])]),(false,[j0])])
theorem t1_1_6 : rowB G1 5000 r1_1_6 = true := by kernel_rfl
noncomputable def r1_1_7 : Row := .mk 71 [(.agg [(jl [[j0],[j0],[j0],[j0]]),(jl [[jn,(jl [[j1,(jl [[j2,j0,jt,j1,j0]]),jn],[j2,(jl [[j2,j1,jt,j1,j0]]),jn]]),(jl [[j1,(jl [[j0],[j1]])]])],[(jl [[j2],[(j 3)]]),(jl [[(j 5),(jl [[j1,j2,jf,j1,j0],[j1,(j 3),jf,j1,j0]]),jn]]),(jl [[j1,(jl [[(j 3)],[j2]])]])]])]),(.agg [(j 9),(j 9)])] (.tup [(false,[jn]),(false,[j0])])
theorem t1_1_7 : rowB G1 5000 r1_1_7 = true := by kernel_rfl
noncomputable def r1_1_8 : Row := .mk 72 [(.agg [(jl [[j0],[j0],[j0],[j0]]),(jl [[jn,(jl [[j1,(jl [[j2,j0,jt,j1,j0]]),jn],[j2,(jl [[j2,j1,jt,j1,j0]]),jn]]),(jl [[j1,(jl [[j0],[j1]])]])],[(jl [[j2],[(j 3)]]),(jl [[(j 5),(jl [[j1,j2,jf,j1,j0],[j1,(j 3),jf,j1,j0]]),jn]]),(jl [[j1,(jl [[(j 3)],[j2]])]])]])]),(.agg [(j 9),(j 9)])] (.tup [(false,[(jl [[j0],[j1],[j0],[j1]])]),(false,[j0])])
theorem t1_1_8 : rowB G1 5000 r1_1_8 = true := by kernel_rfl
noncomputable def r1_1_9 : Row := .mk 16 [(.agg [(jl [[j1],[j1],[j1],[j1]]),(jl [[jn,(jl [[j1,(jl [[j2,j0,jt,j1,j0]]),jn],[j2,(jl [[j2,j1,jt,j1,j0]]),jn]]),(jl [[j1,(jl [[j0],[j1]])]])],[(jl [[j2],[(j 3)]]),(jl [[(j 5),(jl [[j1,j2,jf,j1,j0],[j1,(j 3),jf,j1,j0]]),jn]]),(jl [[j1,(jl [[(j 3)],[j2]])]])]])]),(.agg [(j 3),(j 3)])] (.tup [(false,[(jl [[j2],[j2],[(j 24)],[(j 24)]])]),(false,[j0])])
theorem t1_1_9 : rowB G1 5000 r1_1_9 = true := by kernel_rfl
noncomputable def r1_1_10 : Row := .mk 71 [(.agg [(jl [[j1],[j1],[j1],[j1]]),(jl [[jn,(jl [[j1,(jl [[j2,j0,jt,j1,j0]]),jn],[j2,(jl [[j2,j1,jt,j1,j0]]),jn]]),(jl [[j1,(jl [[j0],[j1]])]])],[(jl [[j2],[(j 3)]]),(jl [[(j 5),(jl [[j1,j2,jf,j1,j0],[j1,(j 3),jf,j1,j0]]),jn]]),(jl [[j1,(jl [[(j 3)],[j2]])]])]])]),(.agg [(j 3),(j 3)])] (.tup [(false,[jn]),(false,[j0])])
theorem t1_1_10 : rowB G1 5000 r1_1_10 = true := by kernel_rfl
noncomputable def r1_1_11 : Row := .mk 72 [(.agg [(jl [[j1],[j1],[j1],[j1]]),(jl [[jn,(jl [[j1,(jl [[j2,j0,jt,j1,j0]]),jn],[j2,(jl [[j2,j1,jt,j1,j0]]),jn]]),(jl [[j1,(jl [[j0],[j1]])]])],[(jl [[j2],[(j 3)]]),(jl [[(j 5),(jl [[j1,j2,jf,j1,j0],[j1,(j 3),jf,j1,j0]]),jn]]),(jl [[j1,(jl [[(j 3)],[j2]])]])]])]),(.agg [(j 3),(j 3)])] (.tup [(false,[(jl [[j0],[j1],[j0],[j1]])]),(false,[j0])])
theorem t1_1_11 : rowB G1 5000 r1_1_11 = true := by kernel_rfl
noncomputable def r1_1_12 : Row := .mk 16 [(.agg [(jl [[j1],[j1],[j1],[j1]]),(jl [[jn,(jl [[j1,(jl [[j2,j0,jt,j1,j0]]),jn],[j2,(jl [[j2,j1,jt,j1,j0]]),jn]]),(jl [[j1,(jl [[j0],[j1]])]])],[(jl [[j2],[(j 3)]]),(jl [[(j 5),(jl [[j1,j2,jf,j1,j0],[j1,(j 3),jf,j1,j0]]),jn]]),(jl [[j1,(jl [[(j 3)],[j2]])]])]])]),(.agg [(j 6),(j 6)])] (.tup [(false,[(jl [[j2],[j2],[(j 24)],[(j 24)]])]),(false,[j0])])
theorem t1_1_12 : rowB G1 5000 r1_1_12 = true := by kernel_rfl
noncomputable def r1_1_13 : Row := .mk 71 [(.agg [(jl [[j1],[j1],[j1],[j1]]),(jl [[jn,(jl [[j1,(jl [[j2,j0,jt,j1,j0]]),jn],[j2,(jl [[j2,j1,jt,j1,j0]]),jn]]),(jl [[j1,(jl [[j0],[j1]])]])],[(jl [[j2],[(j 3)]]),(jl [[(j 5),(jl [[j1,j2,jf,j1,j0],[j1,(j 3),jf,j1,j0]]),jn]]),(jl [[j1,(jl [[(j 3)],[j2]])]])]])]),(.agg [(j 6),(j 6)])] (.tup [(false,[jn]),(false,[j0])])
theorem t1_1_13 : rowB G1 5000 r1_1_13 = true := by kernel_rfl
noncomputable def r1_1_14 : Row := .mk 72 [(.agg [(jl [[j1],[j1],[j1],[j1]]),(jl [[jn,(jl [[j1,(jl [[j2,j0,jt,j1,j0]]),jn],[j2,(jl [[j2,j1,jt,j1,j0]]),jn]]),(jl [[j1,(jl [[j0],[j1]])]])],[(jl [[j2],[(j 3)]]),(jl [[(j 5),(jl [[j1,j2,jf,j1,j0],[j1,(j 3),jf,j1,j0]]),jn]]),(jl [[j1,(jl [[(j 3)],[j2]])]])]])]),(.agg [(j 6),(j 6)])] (.tup [(false,[(jl [[j0],[j1],[j0],[j1]])]),(false,[j0])])
theorem t1_1_14 : rowB G1 5000 r1_1_14 = true := by kernel_rfl
noncomputable def r1_1_15 : Row := .mk 16 [(.agg [(jl [[j1],[j1],[j1],[j1]]),(jl [[jn,(jl [[j1,(jl [[j2,j0,jt,j1,j0]]),jn],[j2,(jl [[j2,j1,jt,j1,j0]]),jn]]),(jl [[j1,(jl [[j0],[j1]])]])],[(jl [[j2],[(j 3)]]),(jl [[(j 5),(jl [[j1,j2,jf,j1,j0],[j1,(j 3),jf,j1,j0]]),jn]]),(jl [[j1,(jl [[(j 3)],[j2]])]])]])]),(.agg [(j 9),(j 9)])] (.tup [(false,[(jl [[j2],[j2],[(j 24)],[(j 24)]])]),(false,[j0])])
theorem t1_1_15 : rowB G1 5000 r1_1_15 = true := by kernel_rfl
noncomputable def r1_1_16 : Row := .mk 71 [(.agg [(jl [[j1],[j1],[j1],[j1]]),(jl [[jn,(jl [[j1,(jl [[j2,j0,jt,j1,j0]]),jn],[j2,(jl [[j2,j1,jt,j1,j0]]),jn]]),(jl [[j1,(jl [[j0],[j1]])]])],[(jl [[j2],[(j 3)]]),(jl [[(j 5),(jl [[j1,j2,jf,j1,j0],[j1,(j 3),jf,j1,j0]]),jn]]),(jl [[j1,(jl [[(j 3)],[j2]])]])]])]),(.agg [(j 9),(j 9)])] (.tup [(false,[jn]),(false,[j0])])
theorem t1_1_16 : rowB G1 5000 r1_1_16 = true := by kernel_rfl
noncomputable def r1_1_17 : Row := .mk 72 [(.agg [(jl [[j1],[j1],[j1],[j1]]),(jl [[jn,(jl [[j1,(jl [[j2,j0,jt,j1,j0]]),jn],[j2,(jl [[j2,j1,jt,j1,j0]]),jn]]),(jl [[j1,(jl [[j0],[j1]])]])],[(jl [[j2],[(j 3)]]),(jl [[(j 5),(jl [[j1,j2,jf,j1,j0],[j1,(j 3),jf,j1,j0]]),jn]]),(jl [[j1,(jl [[(j 3)],[j2]])]])]])]),(.agg [(j 9),(j 9)])] (.tup [(false,[(jl [[j0],[j1],[j0],[j1]])]),(false,[j0])])
theorem t1_1_17 : rowB G1 5000 r1_1_17 = true := by kernel_rfl
noncomputable def rows1_1 : List Row := [r1_1_0,r1_1_1,r1_1_2,r1_1_3,r1_1_4,r1_1_5,r1_1_6,r1_1_7,r1_1_8,r1_1_9,r1_1_10,r1_1_11,r1_1_12,r1_1_13,r1_1_14,r1_1_15,r1_1_16,r1_1_17]
theorem ok1_1 : ∀ e ∈ rows1_1,RowOk Tryz.prog tys e := rowsHold e1 (show allR G1 5000 rows1_1 from ⟨t1_1_0,t1_1_1,t1_1_2,t1_1_3,t1_1_4,t1_1_5,t1_1_6,t1_1_7,t1_1_8,t1_1_9,t1_1_10,t1_1_11,t1_1_12,t1_1_13,t1_1_14,t1_1_15,t1_1_16,t1_1_17,trivial⟩)
end Go.Proofs.YtmafghjodghgcaaGreat.allocSwap
