/- What 'fixed' comes to: the kernel runs it. -/
import Derived.Test.YtjfppkhaiooloaaGreatDoorBase
import Derived.Test.YtjfppkhaiooloaaGreatDoorOnEnv
namespace Go.Proofs.YtjfppkhaiooloaaGreatDoor.On
open Go.AI
set_option maxRecDepth 100000
theorem k63 : flagOf (call env 100000 63 [] (bare glob)) = some true := by kernel_rfl
end Go.Proofs.YtjfppkhaiooloaaGreatDoor.On
