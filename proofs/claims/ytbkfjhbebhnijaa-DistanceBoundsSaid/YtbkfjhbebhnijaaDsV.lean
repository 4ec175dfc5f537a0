/-
  law 31: what the walks of DistanceMonotone and DistanceBounds import.
-/
import Derived.Test.YtbkfjhbebhnijaaDsP
import Derived.Test.YtbkfjhbebhnijaaDsU
