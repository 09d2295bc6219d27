/- Graphs of functions built of pieces: what the code tells of some of them, by runs. -/
import Derived.Test.YtkeenpohacdanaaGb
namespace Go.Proofs.Ytkeenpohacdanaa.Ev
open Go Go.RowKit Go.Proofs.Ytkeenpohacdanaa.Ms
set_option maxRecDepth 100000
theorem qm1:oG [false,false,true,true,true]:=fun _ _ _ _=>by kernel_rfl
theorem qm2:nG [false,false,true,true,true]:=fun _ _ _ _=>by kernel_rfl
theorem qm3:iG [false,false,true,true,true]:=fun _ _ _ _=>by kernel_rfl
theorem qm4:oG [false,true,true,false,true]:=fun _ _ _ _=>by kernel_rfl
theorem qm5:nG [false,true,true,false,true]:=fun _ _ _ _=>by kernel_rfl
theorem qm6:iG [false,true,true,false,true]:=fun _ _ _ _=>by kernel_rfl
theorem qrq:oG [true,true,true,true]:=fun _ _ _ _=>by kernel_rfl
theorem qrr:nG [true,true,true,true]:=fun _ _ _ _=>by kernel_rfl
theorem qrs:iG [true,true,true,true]:=fun _ _ _ _=>by kernel_rfl
theorem qm7:oG [true,false,true,false,false]:=fun _ _ _ _=>by kernel_rfl
theorem qm8:nG [true,false,true,false,false]:=fun _ _ _ _=>by kernel_rfl
theorem qm9:iG [true,false,true,false,false]:=fun _ _ _ _=>by kernel_rfl
theorem qna:oG [false,false,true,false,false]:=fun _ _ _ _=>by kernel_rfl
theorem qnb:nG [false,false,true,false,false]:=fun _ _ _ _=>by kernel_rfl
theorem qnc:iG [false,false,true,false,false]:=fun _ _ _ _=>by kernel_rfl
theorem qrt:oG [true,true,false,false]:=fun _ _ _ _=>by kernel_rfl
theorem qru:nG [true,true,false,false]:=fun _ _ _ _=>by kernel_rfl
theorem qrv:iG [true,true,false,false]:=fun _ _ _ _=>by kernel_rfl
theorem qrw:oG [false,false,false,false]:=fun _ _ _ _=>by kernel_rfl
theorem qrx:nG [false,false,false,false]:=fun _ _ _ _=>by kernel_rfl
theorem qry:iG [false,false,false,false]:=fun _ _ _ _=>by kernel_rfl
theorem qxi:oG [false,false]:=fun _ _ _ _=>by kernel_rfl
theorem qxj:nG [false,false]:=fun _ _ _ _=>by kernel_rfl
theorem qxk:iG [false,false]:=fun _ _ _ _=>by kernel_rfl
theorem qnd:oG [false,true,false,true,true]:=fun _ _ _ _=>by kernel_rfl
theorem qnf:nG [false,true,false,true,true]:=fun _ _ _ _=>by kernel_rfl
theorem qng:iG [false,true,false,true,true]:=fun _ _ _ _=>by kernel_rfl
theorem qnh:oG [false,true,true,true,false]:=fun _ _ _ _=>by kernel_rfl
theorem qni:nG [false,true,true,true,false]:=fun _ _ _ _=>by kernel_rfl
theorem qnj:iG [false,true,true,true,false]:=fun _ _ _ _=>by kernel_rfl
theorem qnk:oG [false,false,false,true,true]:=fun _ _ _ _=>by kernel_rfl
theorem qnl:nG [false,false,false,true,true]:=fun _ _ _ _=>by kernel_rfl
theorem qnm:iG [false,false,false,true,true]:=fun _ _ _ _=>by kernel_rfl
theorem qnn:oG [true,false,false,true,false]:=fun _ _ _ _=>by kernel_rfl
theorem qno:nG [true,false,false,true,false]:=fun _ _ _ _=>by kernel_rfl
theorem qnp:iG [true,false,false,true,false]:=fun _ _ _ _=>by kernel_rfl
theorem qnq:oG [false,false,false,true,false]:=fun _ _ _ _=>by kernel_rfl
theorem qnr:nG [false,false,false,true,false]:=fun _ _ _ _=>by kernel_rfl
theorem qns:iG [false,false,false,true,false]:=fun _ _ _ _=>by kernel_rfl
theorem qrz:oG [true,false,true,false]:=fun _ _ _ _=>by kernel_rfl
theorem qr0:nG [true,false,true,false]:=fun _ _ _ _=>by kernel_rfl
theorem qr1:iG [true,false,true,false]:=fun _ _ _ _=>by kernel_rfl
theorem qvc:oG [false,false,true]:=fun _ _ _ _=>by kernel_rfl
theorem qvd:nG [false,false,true]:=fun _ _ _ _=>by kernel_rfl
theorem qve:iG [false,false,true]:=fun _ _ _ _=>by kernel_rfl
theorem qvf:oG [false,false,false]:=fun _ _ _ _=>by kernel_rfl
theorem qvg:nG [false,false,false]:=fun _ _ _ _=>by kernel_rfl
theorem qvh:iG [false,false,false]:=fun _ _ _ _=>by kernel_rfl
end Go.Proofs.Ytkeenpohacdanaa.Ev
