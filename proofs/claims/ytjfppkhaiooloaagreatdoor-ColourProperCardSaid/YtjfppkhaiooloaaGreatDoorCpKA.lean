/- What 'wakes' comes to: the kernel runs it. -/
import Derived.Test.YtjfppkhaiooloaaGreatDoorBase
import Derived.Test.YtjfppkhaiooloaaGreatDoorCpEnv
namespace Go.Proofs.YtjfppkhaiooloaaGreatDoor.Cp
open Go.AI
set_option maxRecDepth 100000
theorem k24 : flagOf (call env 100000 24 [] (bare glob)) = some true := by kernel_rfl
end Go.Proofs.YtjfppkhaiooloaaGreatDoor.Cp
