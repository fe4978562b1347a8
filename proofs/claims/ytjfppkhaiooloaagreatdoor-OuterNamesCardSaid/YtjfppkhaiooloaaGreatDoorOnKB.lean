/- What 'OuterNames' comes to: the kernel runs it. -/
import Derived.Test.YtjfppkhaiooloaaGreatDoorBase
import Derived.Test.YtjfppkhaiooloaaGreatDoorOnEnv
namespace Go.Proofs.YtjfppkhaiooloaaGreatDoor.On
open Go.AI
set_option maxRecDepth 100000
theorem k15 : flagOf (call (withKnown env glob [(63, true)]) 100000 15 [] (bare glob)) = some true := by kernel_rfl
end Go.Proofs.YtjfppkhaiooloaaGreatDoor.On
