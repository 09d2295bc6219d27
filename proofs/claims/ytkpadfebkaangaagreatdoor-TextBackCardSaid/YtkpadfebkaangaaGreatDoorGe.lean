/- Graphs of functions built of pieces. -/
import Derived.Test.YtkpadfebkaangaaGreatDoorGb
namespace Go.Proofs.YtkpadfebkaangaaGreatDoor.Ev
open Go Go.RowKit Go.Proofs.YtkpadfebkaangaaGreatDoor.Ms
set_option maxRecDepth 100000
set_option maxHeartbeats 4000000
theorem qz7 (s:List Bool) (hs:s.length<=5):oG s:=by
 rcases s with _ | ⟨_ | _,_ | ⟨_ | _,_ | ⟨_ | _,_ | ⟨_ | _,_ | ⟨_ | _,_ | ⟨_,_⟩⟩⟩⟩⟩⟩
 all_goals first | (simp at hs;done) | (intro _ _ _ _;kernel_rfl)
theorem qz8 (s:List Bool) (hs:s.length<=5):nG s:=by
 rcases s with _ | ⟨_ | _,_ | ⟨_ | _,_ | ⟨_ | _,_ | ⟨_ | _,_ | ⟨_ | _,_ | ⟨_,_⟩⟩⟩⟩⟩⟩
 all_goals first | (simp at hs;done) | (intro _ _ _ _;kernel_rfl)
theorem q43 (s:List Bool) (hs:s.length<=3):iG (false::false::s):=by
 rcases s with _ | ⟨_ | _,_ | ⟨_ | _,_ | ⟨_ | _,_ | ⟨_,_⟩⟩⟩⟩
 all_goals first | (simp at hs;done) | (intro _ _ _ _;kernel_rfl)
theorem q44 (s:List Bool) (hs:s.length<=3):iG (false::true::s):=by
 rcases s with _ | ⟨_ | _,_ | ⟨_ | _,_ | ⟨_ | _,_ | ⟨_,_⟩⟩⟩⟩
 all_goals first | (simp at hs;done) | (intro _ _ _ _;kernel_rfl)
theorem q45 (s:List Bool) (hs:s.length<=3):iG (true::false::s):=by
 rcases s with _ | ⟨_ | _,_ | ⟨_ | _,_ | ⟨_ | _,_ | ⟨_,_⟩⟩⟩⟩
 all_goals first | (simp at hs;done) | (intro _ _ _ _;kernel_rfl)
theorem q46 (s:List Bool) (hs:s.length<=3):iG (true::true::s):=by
 rcases s with _ | ⟨_ | _,_ | ⟨_ | _,_ | ⟨_ | _,_ | ⟨_,_⟩⟩⟩⟩
 all_goals first | (simp at hs;done) | (intro _ _ _ _;kernel_rfl)
theorem qz9 (s:List Bool) (hs:s.length<=5):iG s:=by
 rcases s with _ | ⟨_ | _,_ | ⟨_ | _,s⟩⟩
 case cons.false.cons.false=>exact q43 s (by simpa using hs)
 case cons.false.cons.true=>exact q44 s (by simpa using hs)
 case cons.true.cons.false=>exact q45 s (by simpa using hs)
 case cons.true.cons.true=>exact q46 s (by simpa using hs)
 all_goals (intro _ _ _ _;kernel_rfl)
end Go.Proofs.YtkpadfebkaangaaGreatDoor.Ev
