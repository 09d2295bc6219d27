/- Graphs of functions built of pieces: what the code tells of some of them, by runs. -/
import Derived.Test.YtalbjjoppndjjaaGb
namespace Go.Proofs.Ytalbjjoppndjjaa.Ev
open Go Go.RowKit Go.Proofs.Ytalbjjoppndjjaa.Ms
set_option maxRecDepth 100000
theorem qie:oG [true,true,true,true,true]:=fun _ _ _ _=>by kernel_rfl
theorem qif:nG [true,true,true,true,true]:=fun _ _ _ _=>by kernel_rfl
theorem qig:iG [true,true,true,true,true]:=fun _ _ _ _=>by kernel_rfl
theorem qih:oG [true,true,true,false,false]:=fun _ _ _ _=>by kernel_rfl
theorem qii:nG [true,true,true,false,false]:=fun _ _ _ _=>by kernel_rfl
theorem qij:iG [true,true,true,false,false]:=fun _ _ _ _=>by kernel_rfl
theorem qik:oG [true,false,false,false,true]:=fun _ _ _ _=>by kernel_rfl
theorem qil:nG [true,false,false,false,true]:=fun _ _ _ _=>by kernel_rfl
theorem qim:iG [true,false,false,false,true]:=fun _ _ _ _=>by kernel_rfl
theorem qin:oG [false,false,false,false,true]:=fun _ _ _ _=>by kernel_rfl
theorem qio:nG [false,false,false,false,true]:=fun _ _ _ _=>by kernel_rfl
theorem qip:iG [false,false,false,false,true]:=fun _ _ _ _=>by kernel_rfl
theorem qn1:oG [true,false,false,true]:=fun _ _ _ _=>by kernel_rfl
theorem qn2:nG [true,false,false,true]:=fun _ _ _ _=>by kernel_rfl
theorem qn3:iG [true,false,false,true]:=fun _ _ _ _=>by kernel_rfl
theorem qsa:oG [false,true,true]:=fun _ _ _ _=>by kernel_rfl
theorem qsb:nG [false,true,true]:=fun _ _ _ _=>by kernel_rfl
theorem qsc:iG [false,true,true]:=fun _ _ _ _=>by kernel_rfl
theorem qsd:oG [false,true,false]:=fun _ _ _ _=>by kernel_rfl
theorem qse:nG [false,true,false]:=fun _ _ _ _=>by kernel_rfl
theorem qsf:iG [false,true,false]:=fun _ _ _ _=>by kernel_rfl
theorem quz:oG [true,false]:=fun _ _ _ _=>by kernel_rfl
theorem qu0:nG [true,false]:=fun _ _ _ _=>by kernel_rfl
theorem qu1:iG [true,false]:=fun _ _ _ _=>by kernel_rfl
theorem qiq:oG [false,true,true,true,true]:=fun _ _ _ _=>by kernel_rfl
theorem qir:nG [false,true,true,true,true]:=fun _ _ _ _=>by kernel_rfl
theorem qis:iG [false,true,true,true,true]:=fun _ _ _ _=>by kernel_rfl
theorem qit:oG [true,false,false,true,true]:=fun _ _ _ _=>by kernel_rfl
theorem qiu:nG [true,false,false,true,true]:=fun _ _ _ _=>by kernel_rfl
theorem qiv:iG [true,false,false,true,true]:=fun _ _ _ _=>by kernel_rfl
theorem qiw:oG [false,false,true,false,true]:=fun _ _ _ _=>by kernel_rfl
theorem qix:nG [false,false,true,false,true]:=fun _ _ _ _=>by kernel_rfl
theorem qiy:iG [false,false,true,false,true]:=fun _ _ _ _=>by kernel_rfl
theorem qiz:oG [true,true,false,false,false]:=fun _ _ _ _=>by kernel_rfl
theorem qi0:nG [true,true,false,false,false]:=fun _ _ _ _=>by kernel_rfl
theorem qi1:iG [true,true,false,false,false]:=fun _ _ _ _=>by kernel_rfl
theorem qn4:oG [false,true,true,false]:=fun _ _ _ _=>by kernel_rfl
theorem qn5:nG [false,true,true,false]:=fun _ _ _ _=>by kernel_rfl
theorem qn6:iG [false,true,true,false]:=fun _ _ _ _=>by kernel_rfl
theorem qn7:oG [true,false,false,false]:=fun _ _ _ _=>by kernel_rfl
theorem qn8:nG [true,false,false,false]:=fun _ _ _ _=>by kernel_rfl
theorem qn9:iG [true,false,false,false]:=fun _ _ _ _=>by kernel_rfl
theorem qu2:oG [true,true]:=fun _ _ _ _=>by kernel_rfl
theorem qu3:nG [true,true]:=fun _ _ _ _=>by kernel_rfl
theorem qu4:iG [true,true]:=fun _ _ _ _=>by kernel_rfl
theorem qu5:oG [false,true]:=fun _ _ _ _=>by kernel_rfl
theorem qu6:nG [false,true]:=fun _ _ _ _=>by kernel_rfl
theorem qu7:iG [false,true]:=fun _ _ _ _=>by kernel_rfl
end Go.Proofs.Ytalbjjoppndjjaa.Ev
