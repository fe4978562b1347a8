/- What 'wakes' comes to: the kernel runs it. -/
import Derived.Test.YtjfppkhaiooloaaGreatDoorBase
import Derived.Test.YtjfppkhaiooloaaGreatDoorGsEnv
namespace Go.Proofs.YtjfppkhaiooloaaGreatDoor.Gs
open Go.AI
set_option maxRecDepth 100000
theorem k82 : flagOf (call env 100000 82 [] (bare glob)) = some true := by kernel_rfl
end Go.Proofs.YtjfppkhaiooloaaGreatDoor.Gs
