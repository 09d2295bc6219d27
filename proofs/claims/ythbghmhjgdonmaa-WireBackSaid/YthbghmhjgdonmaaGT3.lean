/- Graphs of functions built of pieces: what the code tells of some of them, by runs. -/
import Derived.Test.YthbghmhjgdonmaaGb
namespace Go.Proofs.Ythbghmhjgdonmaa.Ev
open Go Go.RowKit Go.Proofs.Ythbghmhjgdonmaa.Ms
set_option maxRecDepth 100000
theorem qj5:oG [true,false,true,true,true]:=fun _ _ _ _=>by kernel_rfl
theorem qj6:nG [true,false,true,true,true]:=fun _ _ _ _=>by kernel_rfl
theorem qj7:iG [true,false,true,true,true]:=fun _ _ _ _=>by kernel_rfl
theorem qj8:oG [true,false,true,false,true]:=fun _ _ _ _=>by kernel_rfl
theorem qj9:nG [true,false,true,false,true]:=fun _ _ _ _=>by kernel_rfl
theorem qka:iG [true,false,true,false,true]:=fun _ _ _ _=>by kernel_rfl
theorem qkb:oG [false,false,true,true,false]:=fun _ _ _ _=>by kernel_rfl
theorem qkc:nG [false,false,true,true,false]:=fun _ _ _ _=>by kernel_rfl
theorem qkd:iG [false,false,true,true,false]:=fun _ _ _ _=>by kernel_rfl
theorem qpe:oG [false,true,true,true]:=fun _ _ _ _=>by kernel_rfl
theorem qpf:nG [false,true,true,true]:=fun _ _ _ _=>by kernel_rfl
theorem qpg:iG [false,true,true,true]:=fun _ _ _ _=>by kernel_rfl
theorem qke:oG [false,true,false,false,false]:=fun _ _ _ _=>by kernel_rfl
theorem qkf:nG [false,true,false,false,false]:=fun _ _ _ _=>by kernel_rfl
theorem qkg:iG [false,true,false,false,false]:=fun _ _ _ _=>by kernel_rfl
theorem qph:oG [false,false,true,false]:=fun _ _ _ _=>by kernel_rfl
theorem qpi:nG [false,false,true,false]:=fun _ _ _ _=>by kernel_rfl
theorem qpj:iG [false,false,true,false]:=fun _ _ _ _=>by kernel_rfl
theorem qth:oG [true,true,false]:=fun _ _ _ _=>by kernel_rfl
theorem qti:nG [true,true,false]:=fun _ _ _ _=>by kernel_rfl
theorem qtj:iG [true,true,false]:=fun _ _ _ _=>by kernel_rfl
theorem qkh:oG [true,true,false,true,true]:=fun _ _ _ _=>by kernel_rfl
theorem qki:nG [true,true,false,true,true]:=fun _ _ _ _=>by kernel_rfl
theorem qkj:iG [true,true,false,true,true]:=fun _ _ _ _=>by kernel_rfl
theorem qkk:oG [true,false,true,true,false]:=fun _ _ _ _=>by kernel_rfl
theorem qkl:nG [true,false,true,true,false]:=fun _ _ _ _=>by kernel_rfl
theorem qkm:iG [true,false,true,true,false]:=fun _ _ _ _=>by kernel_rfl
theorem qkn:oG [false,true,false,false,true]:=fun _ _ _ _=>by kernel_rfl
theorem qko:nG [false,true,false,false,true]:=fun _ _ _ _=>by kernel_rfl
theorem qkp:iG [false,true,false,false,true]:=fun _ _ _ _=>by kernel_rfl
theorem qpk:oG [true,false,true,true]:=fun _ _ _ _=>by kernel_rfl
theorem qpl:nG [true,false,true,true]:=fun _ _ _ _=>by kernel_rfl
theorem qpm:iG [true,false,true,true]:=fun _ _ _ _=>by kernel_rfl
theorem qkq:oG [true,false,false,false,false]:=fun _ _ _ _=>by kernel_rfl
theorem qkr:nG [true,false,false,false,false]:=fun _ _ _ _=>by kernel_rfl
theorem qks:iG [true,false,false,false,false]:=fun _ _ _ _=>by kernel_rfl
theorem qpn:oG [false,true,false,false]:=fun _ _ _ _=>by kernel_rfl
theorem qpo:nG [false,true,false,false]:=fun _ _ _ _=>by kernel_rfl
theorem qpp:iG [false,true,false,false]:=fun _ _ _ _=>by kernel_rfl
theorem qkt:oG [false,false,false,false,false]:=fun _ _ _ _=>by kernel_rfl
theorem qku:nG [false,false,false,false,false]:=fun _ _ _ _=>by kernel_rfl
theorem qkv:iG [false,false,false,false,false]:=fun _ _ _ _=>by kernel_rfl
theorem o_t:oG [true]:=fun _ _ _ _=>by kernel_rfl
theorem n_t:nG [true]:=fun _ _ _ _=>by kernel_rfl
theorem i_t:iG [true]:=fun _ _ _ _=>by kernel_rfl
end Go.Proofs.Ythbghmhjgdonmaa.Ev
