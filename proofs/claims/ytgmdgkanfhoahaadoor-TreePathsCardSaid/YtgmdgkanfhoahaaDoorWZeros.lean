/- Lemmas of the print, those that are used here. -/
import Derived.Test.YtgmdgkanfhoahaaDoorWApart
import Derived.Test.YtgmdgkanfhoahaaDoorWArr
/-! ### 42. append(v, make([]T, n)...): the operation comes as_ append with the number in the second place -/
