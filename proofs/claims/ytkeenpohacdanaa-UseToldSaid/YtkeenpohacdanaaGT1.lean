/- Graphs of functions built of pieces: what the code tells of some of them, by runs. -/
import Derived.Test.YtkeenpohacdanaaGb
namespace Go.Proofs.Ytkeenpohacdanaa.Ev
open Go Go.RowKit Go.Proofs.Ytkeenpohacdanaa.Ms
set_option maxRecDepth 100000
theorem qfg:oG [true,true,true,true,true]:=fun _ _ _ _=>by kernel_rfl
theorem qfh:nG [true,true,true,true,true]:=fun _ _ _ _=>by kernel_rfl
theorem qfi:iG [true,true,true,true,true]:=fun _ _ _ _=>by kernel_rfl
theorem qfj:oG [true,true,true,false,false]:=fun _ _ _ _=>by kernel_rfl
theorem qfk:nG [true,true,true,false,false]:=fun _ _ _ _=>by kernel_rfl
theorem qfl:iG [true,true,true,false,false]:=fun _ _ _ _=>by kernel_rfl
theorem qfm:oG [true,false,false,false,true]:=fun _ _ _ _=>by kernel_rfl
theorem qfn:nG [true,false,false,false,true]:=fun _ _ _ _=>by kernel_rfl
theorem qfo:iG [true,false,false,false,true]:=fun _ _ _ _=>by kernel_rfl
theorem qfp:oG [false,false,false,false,true]:=fun _ _ _ _=>by kernel_rfl
theorem qfq:nG [false,false,false,false,true]:=fun _ _ _ _=>by kernel_rfl
theorem qfr:iG [false,false,false,false,true]:=fun _ _ _ _=>by kernel_rfl
theorem qkt:oG [true,false,false,true]:=fun _ _ _ _=>by kernel_rfl
theorem qku:nG [true,false,false,true]:=fun _ _ _ _=>by kernel_rfl
theorem qkv:iG [true,false,false,true]:=fun _ _ _ _=>by kernel_rfl
theorem qof:oG [false,true,true]:=fun _ _ _ _=>by kernel_rfl
theorem qog:nG [false,true,true]:=fun _ _ _ _=>by kernel_rfl
theorem qoh:iG [false,true,true]:=fun _ _ _ _=>by kernel_rfl
theorem qoi:oG [false,true,false]:=fun _ _ _ _=>by kernel_rfl
theorem qoj:nG [false,true,false]:=fun _ _ _ _=>by kernel_rfl
theorem qok:iG [false,true,false]:=fun _ _ _ _=>by kernel_rfl
theorem qqt:oG [true,false]:=fun _ _ _ _=>by kernel_rfl
theorem qqu:nG [true,false]:=fun _ _ _ _=>by kernel_rfl
theorem qqv:iG [true,false]:=fun _ _ _ _=>by kernel_rfl
theorem qfs:oG [false,true,true,true,true]:=fun _ _ _ _=>by kernel_rfl
theorem qft:nG [false,true,true,true,true]:=fun _ _ _ _=>by kernel_rfl
theorem qfu:iG [false,true,true,true,true]:=fun _ _ _ _=>by kernel_rfl
theorem qfv:oG [true,false,false,true,true]:=fun _ _ _ _=>by kernel_rfl
theorem qfw:nG [true,false,false,true,true]:=fun _ _ _ _=>by kernel_rfl
theorem qfx:iG [true,false,false,true,true]:=fun _ _ _ _=>by kernel_rfl
theorem qfy:oG [false,false,true,false,true]:=fun _ _ _ _=>by kernel_rfl
theorem qfz:nG [false,false,true,false,true]:=fun _ _ _ _=>by kernel_rfl
theorem qf0:iG [false,false,true,false,true]:=fun _ _ _ _=>by kernel_rfl
theorem qf1:oG [true,true,false,false,false]:=fun _ _ _ _=>by kernel_rfl
theorem qf2:nG [true,true,false,false,false]:=fun _ _ _ _=>by kernel_rfl
theorem qf3:iG [true,true,false,false,false]:=fun _ _ _ _=>by kernel_rfl
theorem qkw:oG [false,true,true,false]:=fun _ _ _ _=>by kernel_rfl
theorem qkx:nG [false,true,true,false]:=fun _ _ _ _=>by kernel_rfl
theorem qky:iG [false,true,true,false]:=fun _ _ _ _=>by kernel_rfl
theorem qkz:oG [true,false,false,false]:=fun _ _ _ _=>by kernel_rfl
theorem qk0:nG [true,false,false,false]:=fun _ _ _ _=>by kernel_rfl
theorem qk1:iG [true,false,false,false]:=fun _ _ _ _=>by kernel_rfl
theorem qqw:oG [true,true]:=fun _ _ _ _=>by kernel_rfl
theorem qqx:nG [true,true]:=fun _ _ _ _=>by kernel_rfl
theorem qqy:iG [true,true]:=fun _ _ _ _=>by kernel_rfl
theorem qqz:oG [false,true]:=fun _ _ _ _=>by kernel_rfl
theorem qq0:nG [false,true]:=fun _ _ _ _=>by kernel_rfl
theorem qq1:iG [false,true]:=fun _ _ _ _=>by kernel_rfl
end Go.Proofs.Ytkeenpohacdanaa.Ev
