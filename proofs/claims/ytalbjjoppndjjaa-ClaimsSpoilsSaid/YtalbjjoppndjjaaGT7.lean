/- Graphs of functions built of pieces: what the code tells of some of them, by runs. -/
import Derived.Test.YtalbjjoppndjjaaGb
namespace Go.Proofs.Ytalbjjoppndjjaa.Ev
open Go Go.RowKit Go.Proofs.Ytalbjjoppndjjaa.Ms
set_option maxRecDepth 100000
theorem qkb:oG [false,false,true,true,true]:=fun _ _ _ _=>by kernel_rfl
theorem qkc:nG [false,false,true,true,true]:=fun _ _ _ _=>by kernel_rfl
theorem qkd:iG [false,false,true,true,true]:=fun _ _ _ _=>by kernel_rfl
theorem qke:oG [false,true,true,false,true]:=fun _ _ _ _=>by kernel_rfl
theorem qkf:nG [false,true,true,false,true]:=fun _ _ _ _=>by kernel_rfl
theorem qkg:iG [false,true,true,false,true]:=fun _ _ _ _=>by kernel_rfl
theorem qo1:oG [true,true,true,true]:=fun _ _ _ _=>by kernel_rfl
theorem qo2:nG [true,true,true,true]:=fun _ _ _ _=>by kernel_rfl
theorem qo3:iG [true,true,true,true]:=fun _ _ _ _=>by kernel_rfl
theorem qkh:oG [true,false,true,false,false]:=fun _ _ _ _=>by kernel_rfl
theorem qki:nG [true,false,true,false,false]:=fun _ _ _ _=>by kernel_rfl
theorem qkj:iG [true,false,true,false,false]:=fun _ _ _ _=>by kernel_rfl
theorem qkk:oG [false,false,true,false,false]:=fun _ _ _ _=>by kernel_rfl
theorem qkl:nG [false,false,true,false,false]:=fun _ _ _ _=>by kernel_rfl
theorem qkm:iG [false,false,true,false,false]:=fun _ _ _ _=>by kernel_rfl
theorem qo4:oG [true,true,false,false]:=fun _ _ _ _=>by kernel_rfl
theorem qo5:nG [true,true,false,false]:=fun _ _ _ _=>by kernel_rfl
theorem qo6:iG [true,true,false,false]:=fun _ _ _ _=>by kernel_rfl
theorem qo7:oG [false,false,false,false]:=fun _ _ _ _=>by kernel_rfl
theorem qo8:nG [false,false,false,false]:=fun _ _ _ _=>by kernel_rfl
theorem qo9:iG [false,false,false,false]:=fun _ _ _ _=>by kernel_rfl
theorem qu8:oG [false,false]:=fun _ _ _ _=>by kernel_rfl
theorem qu9:nG [false,false]:=fun _ _ _ _=>by kernel_rfl
theorem qva:iG [false,false]:=fun _ _ _ _=>by kernel_rfl
theorem qkn:oG [false,true,false,true,true]:=fun _ _ _ _=>by kernel_rfl
theorem qko:nG [false,true,false,true,true]:=fun _ _ _ _=>by kernel_rfl
theorem qkp:iG [false,true,false,true,true]:=fun _ _ _ _=>by kernel_rfl
theorem qkq:oG [false,true,true,true,false]:=fun _ _ _ _=>by kernel_rfl
theorem qkr:nG [false,true,true,true,false]:=fun _ _ _ _=>by kernel_rfl
theorem qks:iG [false,true,true,true,false]:=fun _ _ _ _=>by kernel_rfl
theorem qkt:oG [false,false,false,true,true]:=fun _ _ _ _=>by kernel_rfl
theorem qku:nG [false,false,false,true,true]:=fun _ _ _ _=>by kernel_rfl
theorem qkv:iG [false,false,false,true,true]:=fun _ _ _ _=>by kernel_rfl
theorem qkw:oG [true,false,false,true,false]:=fun _ _ _ _=>by kernel_rfl
theorem qkx:nG [true,false,false,true,false]:=fun _ _ _ _=>by kernel_rfl
theorem qky:iG [true,false,false,true,false]:=fun _ _ _ _=>by kernel_rfl
theorem qkz:oG [false,false,false,true,false]:=fun _ _ _ _=>by kernel_rfl
theorem qk0:nG [false,false,false,true,false]:=fun _ _ _ _=>by kernel_rfl
theorem qk1:iG [false,false,false,true,false]:=fun _ _ _ _=>by kernel_rfl
theorem qpa:oG [true,false,true,false]:=fun _ _ _ _=>by kernel_rfl
theorem qpb:nG [true,false,true,false]:=fun _ _ _ _=>by kernel_rfl
theorem qpc:iG [true,false,true,false]:=fun _ _ _ _=>by kernel_rfl
theorem qss:oG [false,false,true]:=fun _ _ _ _=>by kernel_rfl
theorem qst:nG [false,false,true]:=fun _ _ _ _=>by kernel_rfl
theorem qsu:iG [false,false,true]:=fun _ _ _ _=>by kernel_rfl
theorem qsv:oG [false,false,false]:=fun _ _ _ _=>by kernel_rfl
theorem qsw:nG [false,false,false]:=fun _ _ _ _=>by kernel_rfl
theorem qsx:iG [false,false,false]:=fun _ _ _ _=>by kernel_rfl
end Go.Proofs.Ytalbjjoppndjjaa.Ev
