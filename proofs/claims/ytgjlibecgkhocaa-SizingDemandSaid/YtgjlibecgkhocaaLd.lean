/-
  A whole configuration is loaded in one step: with what stands on the check. No conditions beyond those of the statement.
-/
import Derived.Test.YtgjlibecgkhocaaCf3
import Derived.Test.YtgjlibecgkhocaaLd0
