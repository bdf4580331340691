/-
  The marks of numbers, with the catalogues' words beside them.
-/
import Derived.Test.YtmphnocgihegbaaDoorE9
import Derived.Test.YtmphnocgihegbaaDoorMI
