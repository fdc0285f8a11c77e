/-
  The law HeapMoves and its opening, joined.
-/
import Derived.Test.YtcecegcbkcdpjaaHeapSM
import Derived.Test.YtcecegcbkcdpjaaHeapSO
