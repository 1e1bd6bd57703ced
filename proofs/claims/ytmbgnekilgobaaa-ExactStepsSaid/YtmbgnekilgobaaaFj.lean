/-
  ExactSteps: the walk, beside the opening of struct arguments.
-/
import Derived.Test.YtmbgnekilgobaaaFi
import Derived.Test.YtmbgnekilgobaaaArgT
