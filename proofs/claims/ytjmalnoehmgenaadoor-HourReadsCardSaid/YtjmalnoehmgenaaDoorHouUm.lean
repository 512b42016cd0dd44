/- hour: the document's Read, in the program, whole. -/
import Derived.Test.YtjmalnoehmgenaaDoorHouSam
import Derived.Test.YtjmalnoehmgenaaDoorHouSbm
import Derived.Test.YtjmalnoehmgenaaDoorHouScm
import Derived.Test.YtjmalnoehmgenaaDoorHouSdm
import Derived.Test.YtjmalnoehmgenaaDoorHouSem
namespace Go.Abs.S
open Go.Proofs
open Go.Abs.H
theorem refRead_p (s : ByteArray) (hs : s.size ≤ 1000000) : PCall Tryd.prog glob 12 [.v (.string s)] (.tup [iv (readP s).1, iv (readP s).2]) := by
  by_cases hF : Formed s
  · rcases hF.2 with g | g
    · exact refRead_20f s g.1 hF
    · rcases g.2.1 with h | h
      · exact refRead_25p s g.1 hF h
      · exact refRead_25m s g.1 hF h
  · by_cases h1 : s.size = 20
    · exact refRead_20n s h1 hF
    by_cases h2 : s.size = 25
    · exact refRead_25n s h2 hF
    exact refRead_short s ⟨h1, h2⟩ hs
end Go.Abs.S
