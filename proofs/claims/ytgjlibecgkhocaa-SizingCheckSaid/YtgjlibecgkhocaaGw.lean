/-
  Regions of guarded operations, one operation after the other: with what stands on the check. No conditions beyond those of the statement.
-/
import Derived.Test.YtgjlibecgkhocaaSy
import Derived.Test.YtgjlibecgkhocaaLd
import Derived.Test.YtgjlibecgkhocaaGw0
