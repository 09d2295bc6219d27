/- The statement 'AllocTight': calls run apart from the heap. Conditions: none. -/
import Derived.Test.YtmafghjodghgcaaGreatRQAllocTight1
import Derived.KernelRfl
namespace Go.Proofs.YtmafghjodghgcaaGreat.allocTight
open Go Go.Proofs.YtmafghjodghgcaaGreat.Ev
set_option maxRecDepth 100000
noncomputable def r1_0_0 : Row := .mk 16 [(.agg [(jl [[j0]]),(jl [[jn,(jl [[j0,(jl [[j2,j0,jt,j1,j0]]),jn],[(j 9),(jl [[j1,j0,jf,(j 4),j0]]),jn]]),jn]])]),(.agg [j2,j2])] (.tup [(false,[(jl [[j2]])]),(false,[j0])])
theorem t1_0_0 : rowB G1 5000 r1_0_0 = true := by kernel_rfl
noncomputable def r1_0_1 : Row := .mk 71 [(.agg [(jl [[j0]]),(jl [[jn,(jl [[j0,(jl [[j2,j0,jt,j1,j0]]),jn],[(j 9),(jl [[j1,j0,jf,(j 4),j0]]),jn]]),jn]])]),(.agg [j2,j2])] (.tup [(false,[(jl [[j0,j0,(j 3),(j 4),j0]])]),(false,[j0])])
theorem t1_0_1 : rowB G1 5000 r1_0_1 = true := by kernel_rfl
noncomputable def r1_0_2 : Row := .mk 72 [(.agg [(jl [[j0]]),(jl [[jn,(jl [[j0,(jl [[j2,j0,jt,j1,j0]]),jn],[(j 9),(jl [[j1,j0,jf,(j 4),j0]]),jn]]),jn]])]),(.agg [j2,j2])] (.tup [(false,[(jl [[j0]])]),(false,[j0])])
theorem t1_0_2 : rowB G1 5000 r1_0_2 = true := by kernel_rfl
noncomputable def r1_0_3 : Row := .mk 16 [(.agg [(jl [[j0]]),(jl [[jn,(jl [[j0,(jl [[j2,j0,jt,j1,j0]]),jn],[(j 9),(jl [[j1,j0,jf,j2,j0]]),jn]]),jn]])]),(.agg [j2,j2])] (.tup [(false,[(jl [[j2]])]),(false,[j0])])
theorem t1_0_3 : rowB G1 5000 r1_0_3 = true := by kernel_rfl
noncomputable def r1_0_4 : Row := .mk 71 [(.agg [(jl [[j0]]),(jl [[jn,(jl [[j0,(jl [[j2,j0,jt,j1,j0]]),jn],[(j 9),(jl [[j1,j0,jf,j2,j0]]),jn]]),jn]])]),(.agg [j2,j2])] (.tup [(false,[jn]),(false,[j0])])
theorem t1_0_4 : rowB G1 5000 r1_0_4 = true := by kernel_rfl
noncomputable def r1_0_5 : Row := .mk 72 [(.agg [(jl [[j0]]),(jl [[jn,(jl [[j0,(jl [[j2,j0,jt,j1,j0]]),jn],[(j 9),(jl [[j1,j0,jf,j2,j0]]),jn]]),jn]])]),(.agg [j2,j2])] (.tup [(false,[(jl [[j0]])]),(false,[j0])])
theorem t1_0_5 : rowB G1 5000 r1_0_5 = true := by kernel_rfl
noncomputable def r1_0_6 : Row := .mk 16 [(.agg [(jl [[j0]]),(jl [[jn,(jl [[j0,(jl [[j2,j0,jt,j1,j0]]),jn],[(j 9),(jl [[j1,j0,jt,(j 4),j0]]),jn]]),jn]])]),(.agg [j2,j2])] (.tup [(false,[(jl [[j2]])]),(false,[j0])])
theorem t1_0_6 : rowB G1 5000 r1_0_6 = true := by kernel_rfl
noncomputable def r1_0_7 : Row := .mk 71 [(.agg [(jl [[j0]]),(jl [[jn,(jl [[j0,(jl [[j2,j0,jt,j1,j0]]),jn],[(j 9),(jl [[j1,j0,jt,(j 4),j0]]),jn]]),jn]])]),(.agg [j2,j2])] (.tup [(false,[(jl [[j0,j0,(j 3),(j 5),j0]])]),(false,[j0])])
theorem t1_0_7 : rowB G1 5000 r1_0_7 = true := by kernel_rfl
noncomputable def r1_0_8 : Row := .mk 72 [(.agg [(jl [[j0]]),(jl [[jn,(jl [[j0,(jl [[j2,j0,jt,j1,j0]]),jn],[(j 9),(jl [[j1,j0,jt,(j 4),j0]]),jn]]),jn]])]),(.agg [j2,j2])] (.tup [(false,[(jl [[j0]])]),(false,[j0])])
theorem t1_0_8 : rowB G1 5000 r1_0_8 = true := by kernel_rfl
noncomputable def r1_0_9 : Row := .mk 16 [(.agg [(jl [[j0]]),(jl [[jn,(jl [[j0,(jl [[j2,j0,jt,j1,j0]]),jn],[(j 9),(jl [[j1,j0,jt,j2,j0]]),jn]]),jn]])]),(.agg [j2,j2])] (.tup [(false,[(jl [[j2]])]),(false,[j0])])
theorem t1_0_9 : rowB G1 5000 r1_0_9 = true := by kernel_rfl
noncomputable def r1_0_10 : Row := .mk 71 [(.agg [(jl [[j0]]),(jl [[jn,(jl [[j0,(jl [[j2,j0,jt,j1,j0]]),jn],[(j 9),(jl [[j1,j0,jt,j2,j0]]),jn]]),jn]])]),(.agg [j2,j2])] (.tup [(false,[jn]),(false,[j0])])
theorem t1_0_10 : rowB G1 5000 r1_0_10 = true := by kernel_rfl
noncomputable def r1_0_11 : Row := .mk 72 [(.agg [(jl [[j0]]),(jl [[jn,(jl [[j0,(jl [[j2,j0,jt,j1,j0]]),jn],[(j 9),(jl [[j1,j0,jt,j2,j0]]),jn]]),jn]])]),(.agg [j2,j2])] (.tup [(false,[(jl [[j0]])]),(false,[j0])])
theorem t1_0_11 : rowB G1 5000 r1_0_11 = true := by kernel_rfl
noncomputable def r1_0_12 : Row := .mk 16 [(.agg [(jl [[j0],[j0]]),(jl [[jn,(jl [[j0,(jl [[j2,j0,jt,j1,j0]]),jn],[j1,(jl [[j2,j1,jt,j1,j0]]),jn],[(j 9),(jl [[j1,j0,jf,(j 4),j1],[j1,j1,jf,(j 4),j0]]),jn]]),jn]])]),(.agg [(j 3),(j 3)])] (.tup [(false,[(jl [[j2],[j2]])]),(false,[j0])])
theorem t1_0_12 : rowB G1 5000 r1_0_12 = true := by kernel_rfl
noncomputable def r1_0_13 : Row := .mk 71 [(.agg [(jl [[j0],[j0]]),(jl [[jn,(jl [[j0,(jl [[j2,j0,jt,j1,j0]]),jn],[j1,(jl [[j2,j1,jt,j1,j0]]),jn],[(j 9),(jl [[j1,j0,jf,(j 4),j1],[j1,j1,jf,(j 4),j0]]),jn]]),jn]])]),(.agg [(j 3),(j 3)])] (.tup [(false,[(jl [[j0,j0,(j 5),(j 6),j1],[j0,j1,(j 5),(j 6),j0]])]),(false,[j0])])
theorem t1_0_13 : rowB G1 5000 r1_0_13 = true := by kernel_rfl
noncomputable def r1_0_14 : Row := .mk 72 [(.agg [(jl [[j0],[j0]]),(jl [[jn,(jl [[j0,(jl [[j2,j0,jt,j1,j0]]),jn],[j1,(jl [[j2,j1,jt,j1,j0]]),jn],[(j 9),(jl [[j1,j0,jf,(j 4),j1],[j1,j1,jf,(j 4),j0]]),jn]]),jn]])]),(.agg [(j 3),(j 3)])] (.tup [(false,[(jl [[j0],[j1]])]),(false,[j0])])
theorem t1_0_14 : rowB G1 5000 r1_0_14 = true := by kernel_rfl
noncomputable def r1_0_15 : Row := .mk 16 [(.agg [(jl [[j0],[j0]]),(jl [[jn,(jl [[j0,(jl [[j2,j0,jt,j1,j0]]),jn],[j1,(jl [[j2,j1,jt,j1,j0]]),jn],[(j 9),(jl [[j1,j0,jf,j2,j0],[j1,j1,jf,j2,j0]]),jn]]),jn]])]),(.agg [(j 3),(j 3)])] (.tup [(false,[(jl [[j2],[j2]])]),(false,[j0])])
theorem t1_0_15 : rowB G1 5000 r1_0_15 = true := by kernel_rfl
noncomputable def r1_0_16 : Row := .mk 71 [(.agg [(jl [[j0],[j0]]),(jl [[jn,(jl [[j0,(jl [[j2,j0,jt,j1,j0]]),jn],[j1,(jl [[j2,j1,jt,j1,j0]]),jn],[(j 9),(jl [[j1,j0,jf,j2,j0],[j1,j1,jf,j2,j0]]),jn]]),jn]])]),(.agg [(j 3),(j 3)])] (.tup [(false,[jn]),(false,[j0])])
theorem t1_0_16 : rowB G1 5000 r1_0_16 = true := by kernel_rfl
noncomputable def r1_0_17 : Row := .mk 72 [(.agg [(jl [[j0],[j0]]),(jl [[jn,(jl [[j0,(jl [[j2,j0,jt,j1,j0]]),jn],[j1,(jl [[j2,j1,jt,j1,j0]]),jn],[(j 9),(jl [[j1,j0,jf,j2,j0],[j1,j1,jf,j2,j0]]),jn]]),jn]])]),(.agg [(j 3),(j 3)])] (.tup [(false,[(jl [[j0],[j1]])]),(false,[j0])])
theorem t1_0_17 : rowB G1 5000 r1_0_17 = true := by kernel_rfl
noncomputable def r1_0_18 : Row := .mk 16 [(.agg [(jl [[j0],[j0]]),(jl [[jn,(jl [[j0,(jl [[j2,j0,jt,j1,j0]]),jn],[j1,(jl [[j2,j1,jt,j1,j0]]),jn],[(j 9),(jl [[j1,j0,jt,(j 4),j1],[j1,j1,jt,(j 4),j0]]),jn]]),jn]])]),(.agg [(j 3),(j 3)])] (.tup [(false,[(jl [[j2],[j2]])]),(false,[j0])])
theorem t1_0_18 : rowB G1 5000 r1_0_18 = true := by kernel_rfl
noncomputable def r1_0_19 : Row := .mk 71 [(.agg [(jl [[j0],[j0]]),(jl [[jn,(jl [[j0,(jl [[j2,j0,jt,j1,j0]]),jn],[j1,(jl [[j2,j1,jt,j1,j0]]),jn],[(j 9),(jl [[j1,j0,jt,(j 4),j1],[j1,j1,jt,(j 4),j0]]),jn]]),jn]])]),(.agg [(j 3),(j 3)])] (.tup [(false,[(jl [[j0,j0,(j 5),(j 7),j1],[j0,j1,(j 5),(j 7),j0]])]),(false,[j0])])
theorem t1_0_19 : rowB G1 5000 r1_0_19 = true := by kernel_rfl
noncomputable def r1_0_20 : Row := .mk 72 [(.agg [(jl [[j0],[j0]]),(jl [[jn,(jl [[j0,(jl [[j2,j0,jt,j1,j0]]),jn],[j1,(jl [[j2,j1,jt,j1,j0]]),jn],[(j 9),(jl [[j1,j0,jt,(j 4),j1],[j1,j1,jt,(j 4),j0]]),jn]]),jn]])]),(.agg [(j 3),(j 3)])] (.tup [(false,[(jl [[j0],[j1]])]),(false,[j0])])
theorem t1_0_20 : rowB G1 5000 r1_0_20 = true := by kernel_rfl
noncomputable def r1_0_21 : Row := .mk 16 [(.agg [(jl [[j0],[j0]]),(jl [[jn,(jl [[j0,(jl [[j2,j0,jt,j1,j0]]),jn],[j1,(jl [[j2,j1,jt,j1,j0]]),jn],[(j 9),(jl [[j1,j0,jt,j2,j0],[j1,j1,jt,j2,j0]]),jn]]),jn]])]),(.agg [(j 3),(j 3)])] (.tup [(false,[(jl [[j2],[j2]])]),(false,[j0])])
theorem t1_0_21 : rowB G1 5000 r1_0_21 = true := by kernel_rfl
noncomputable def r1_0_22 : Row := .mk 71 [(.agg [(jl [[j0],[j0]]),(jl [[jn,(jl [[j0,(jl [[j2,j0,jt,j1,j0]]),jn],[j1,(jl [[j2,j1,jt,j1,j0]]),jn],[(j 9),(jl [[j1,j0,jt,j2,j0],[j1,j1,jt,j2,j0]]),jn]]),jn]])]),(.agg [(j 3),(j 3)])] (.tup [(false,[jn]),(false,[j0])])
theorem t1_0_22 : rowB G1 5000 r1_0_22 = true := by kernel_rfl
noncomputable def r1_0_23 : Row := .mk 72 [(.agg [(jl [[j0],[j0]]),(jl [[jn,(jl [[j0,(jl [[j2,j0,jt,j1,j0]]),jn],[j1,(jl [[j2,j1,jt,j1,j0]]),jn],[(j 9),(jl [[j1,j0,jt,j2,j0],[j1,j1,jt,j2,j0]]),jn]]),jn]])]),(.agg [(j 3),(j 3)])] (.tup [(false,[(jl [[j0],[j1]])]),(false,[j0])])
theorem t1_0_23 : rowB G1 5000 r1_0_23 = true := by kernel_rfl
noncomputable def r1_0_24 : Row := .mk 16 [(.agg [(jl [[j0],[j0],[j0]]),(jl [[jn,(jl [[j0,(jl [[j2,j0,jt,j1,j0]]),jn],[j1,(jl [[j2,j1,jt,j1,j0]]),jn],[j2,(jl [[j2,j2,jt,j1,j0]]),jn],[(j 9),(jl [[j1,j0,jf,(j 4),j2],[j1,j1,jf,(j 4),j1],[j1,j2,jf,(j 4),j0]]),jn]]),jn]])]),(.agg [(j 4),(j 4)])] (.tup [(false,[(jl [[j2],[j2],[j2]])]),(false,[j0])])
theorem t1_0_24 : rowB G1 5000 r1_0_24 = true := by kernel_rfl
noncomputable def r1_0_25 : Row := .mk 71 [(.agg [(jl [[j0],[j0],[j0]]),(jl [[jn,(jl [[j0,(jl [[j2,j0,jt,j1,j0]]),jn],[j1,(jl [[j2,j1,jt,j1,j0]]),jn],[j2,(jl [[j2,j2,jt,j1,j0]]),jn],[(j 9),(jl [[j1,j0,jf,(j 4),j2],[j1,j1,jf,(j 4),j1],[j1,j2,jf,(j 4),j0]]),jn]]),jn]])]),(.agg [(j 4),(j 4)])] (.tup [(false,[(jl [[j0,j0,(j 7),(j 8),j2],[j0,j1,(j 7),(j 8),j1],[j0,j2,(j 7),(j 8),j0]])]),(false,[j0])])
theorem t1_0_25 : rowB G1 5000 r1_0_25 = true := by kernel_rfl
noncomputable def r1_0_26 : Row := .mk 72 [(.agg [(jl [[j0],[j0],[j0]]),(jl [[jn,(jl [[j0,(jl [[j2,j0,jt,j1,j0]]),jn],[j1,(jl [[j2,j1,jt,j1,j0]]),jn],[j2,(jl [[j2,j2,jt,j1,j0]]),jn],[(j 9),(jl [[j1,j0,jf,(j 4),j2],[j1,j1,jf,(j 4),j1],[j1,j2,jf,(j 4),j0]]),jn]]),jn]])]),(.agg [(j 4),(j 4)])] (.tup [(false,[(jl [[j0],[j1],[j2]])]),(false,[j0])])
theorem t1_0_26 : rowB G1 5000 r1_0_26 = true := by kernel_rfl
noncomputable def r1_0_27 : Row := .mk 16 [(.agg [(jl [[j0],[j0],[j0]]),(jl [[jn,(jl [[j0,(jl [[j2,j0,jt,j1,j0]]),jn],[j1,(jl [[j2,j1,jt,j1,j0]]),jn],[j2,(jl [[j2,j2,jt,j1,j0]]),jn],[(j 9),(jl [[j1,j0,jf,j2,j0],[j1,j1,jf,j2,j0],[j1,j2,jf,j2,j0]]),jn]]),jn]])]),(.agg [(j 4),(j 4)])] (.tup [(false,[(jl [[j2],[j2],[j2]])]),(false,[j0])])
theorem t1_0_27 : rowB G1 5000 r1_0_27 = true := by kernel_rfl
noncomputable def r1_0_28 : Row := .mk 71 [(.agg [(jl [[j0],[j0],[j0]]),(jl [[jn,(jl [[j0,(jl [[j2,j0,jt,j1,j0]]),jn],[j1,(jl [[j2,j1,jt,j1,j0]]),jn],[j2,(jl [[j2,j2,jt,j1,j0]]),jn],[(j 9),(jl [[j1,j0,jf,j2,j0],[j1,j1,jf,j2,j0],[j1,j2,jf,j2,j0]]),jn]]),jn]])]),(.agg [(j 4),(j 4)])] (.tup [(false,[jn]),(false,[j0])])
theorem t1_0_28 : rowB G1 5000 r1_0_28 = true := by kernel_rfl
noncomputable def r1_0_29 : Row := .mk 72 [(.agg [(jl [[j0],[j0],[j0]]),(jl [[jn,(jl [[j0,(jl [[j2,j0,jt,j1,j0]]),jn],[j1,(jl [[j2,j1,jt,j1,j0]]),jn],[j2,(jl [[j2,j2,jt,j1,j0]]),jn],[(j 9),(jl [[j1,j0,jf,j2,j0],[j1,j1,jf,j2,j0],[j1,j2,jf,j2,j0]]),jn]]),jn]])]),(.agg [(j 4),(j 4)])] (.tup [(false,[(jl [[j0],[j1],[j2]])]),(false,[j0])])
theorem t1_0_29 : rowB G1 5000 r1_0_29 = true := by kernel_rfl
noncomputable def r1_0_30 : Row := .mk 16 [(.agg [(jl [[j0],[j0],[j0]]),(jl [[jn,(jl [[j0,(jl [[j2,j0,jt,j1,j0]]),jn],[j1,(jl [[j2,j1,jt,j1,j0]]),jn],[j2,(jl [[j2,j2,jt,j1,j0]]),jn],[(j 9),(jl [[j1,j0,jt,(j 4),j2],[j1,j1,jt,(j 4),j1],[j1,j2,jt,(j 4),j0]]),jn]]),jn]])]),(.agg [(j 4),(j 4)])] (.tup [(false,[(jl [[j2],[j2],[j2]])]),(false,[j0])])
theorem t1_0_30 : rowB G1 5000 r1_0_30 = true := by kernel_rfl
noncomputable def r1_0_31 : Row := .mk 71 [(.agg [(jl [[j0],[j0],[j0]]),(jl [[jn,(jl [[j0,(jl [[j2,j0,jt,j1,j0]]),jn],[j1,(jl [[j2,j1,jt,j1,j0]]),jn],[j2,(jl [[j2,j2,jt,j1,j0]]),jn],[(j 9),(jl [[j1,j0,jt,(j 4),j2],[j1,j1,jt,(j 4),j1],[j1,j2,jt,(j 4),j0]]),jn]]),jn]])]),(.agg [(j 4),(j 4)])] (.tup [(false,[(jl [[j0,j0,(j 7),(j 9),j2],[j0,j1,(j 7),(j 9),j1],[j0,j2,(j 7),(j 9),j0]])]),(false,[j0])])
theorem t1_0_31 : rowB G1 5000 r1_0_31 = true := by kernel_rfl
noncomputable def r1_0_32 : Row := .mk 72 [(.agg [(jl [[j0],[j0],[j0]]),(jl [[jn,(jl [[j0,(jl [[j2,j0,jt,j1,j0]]),jn],[j1,(jl [[j2,j1,jt,j1,j0]]),jn],[j2,(jl [[j2,j2,jt,j1,j0]]),jn],[(j 9),(jl [[j1,j0,jt,(j 4),j2],[j1,j1,jt,(j 4),j1],[j1,j2,jt,(j 4),j0]]),jn]]),jn]])]),(.agg [(j 4),(j 4)])] (.tup [(false,[(jl [[j0],[j1],[j2]])]),(false,[j0])])
theorem t1_0_32 : rowB G1 5000 r1_0_32 = true := by kernel_rfl
noncomputable def r1_0_33 : Row := .mk 16 [(.agg [(jl [[j0],[j0],[j0]]),(jl [[jn,(jl [[j0,(jl [[j2,j0,jt,j1,j0]]),jn],[j1,(jl [[j2,j1,jt,j1,j0]]),jn],[j2,(jl [[j2,j2,jt,j1,j0]]),jn],[(j 9),(jl [[j1,j0,jt,j2,j0],[j1,j1,jt,j2,j0],[j1,j2,jt,j2,j0]]),jn]]),jn]])]),(.agg [(j 4),(j 4)])] (.tup [(false,[(jl [[j2],[j2],[j2]])]),(false,[j0])])
theorem t1_0_33 : rowB G1 5000 r1_0_33 = true := by kernel_rfl
noncomputable def r1_0_34 : Row := .mk 71 [(.agg [(jl [[j0],[j0],[j0]]),(jl [[jn,(jl [[j0,(jl [[j2,j0,jt,j1,j0]]),jn],[j1,(jl [[j2,j1,jt,j1,j0]]),jn],[j2,(jl [[j2,j2,jt,j1,j0]]),jn],[(j 9),(jl [[j1,j0,jt,j2,j0],[j1,j1,jt,j2,j0],[j1,j2,jt,j2,j0]]),jn]]),jn]])]),(.agg [(j 4),(j 4)])] (.tup [(false,[jn]),(false,[j0])])
theorem t1_0_34 : rowB G1 5000 r1_0_34 = true := by kernel_rfl
noncomputable def r1_0_35 : Row := .mk 72 [(.agg [(jl [[j0],[j0],[j0]]),(jl [[jn,(jl [[j0,(jl [[j2,j0,jt,j1,j0]]),jn],[j1,(jl [[j2,j1,jt,j1,j0]]),jn],[j2,(jl [[j2,j2,jt,j1,j0]]),jn],[(j 9),(jl [[j1,j0,jt,j2,j0],[j1,j1,jt,j2,j0],[j1,j2,jt,j2,j0]]),jn]]),jn]])]),(.agg [(j 4),(j 4)])] (.tup [(false,[(jl [[j0],[j1],[j2]])]),(false,[j0])])
theorem t1_0_35 : rowB G1 5000 r1_0_35 = true := by kernel_rfl
noncomputable def rows1_0 : List Row := [r1_0_0,r1_0_1,r1_0_2,r1_0_3,r1_0_4,r1_0_5,r1_0_6,r1_0_7,r1_0_8,r1_0_9,r1_0_10,r1_0_11,r1_0_12,r1_0_13,r1_0_14,r1_0_15,r1_0_16,r1_0_17,r1_0_18,r1_0_19,r1_0_20,r1_0_21,r1_0_22,r1_0_23,r1_0_24,r1_0_25,r1_0_26,r1_0_27,r1_0_28,r1_0_29,r1_0_30,r1_0_31,r1_0_32,r1_0_33,r1_0_34,r1_0_35]
theorem ok1_0 : ∀ e ∈ rows1_0,RowOk Tryz.prog tys e := rowsHold e1 (show allR G1 5000 rows1_0 from ⟨t1_0_0,t1_0_1,t1_0_2,t1_0_3,t1_0_4,t1_0_5,t1_0_6,t1_0_7,t1_0_8,t1_0_9,t1_0_10,t1_0_11,t1_0_12,t1_0_13,t1_0_14,t1_0_15,t1_0_16,t1_0_17,t1_0_18,t1_0_19,t1_0_20,t1_0_21,t1_0_22,t1_0_23,t1_0_24,t1_0_25,t1_0_26,t1_0_27,t1_0_28,t1_0_29,t1_0_30,t1_0_31,t1_0_32,t1_0_33,t1_0_34,t1_0_35,trivial⟩)
end Go.Proofs.YtmafghjodghgcaaGreat.allocTight
