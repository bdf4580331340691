/-
  What lies apart, with the marks of entries beside it.
-/
import Derived.Test.YtmphnocgihegbaaDoorM2
import Derived.Test.YtmphnocgihegbaaDoorMA
