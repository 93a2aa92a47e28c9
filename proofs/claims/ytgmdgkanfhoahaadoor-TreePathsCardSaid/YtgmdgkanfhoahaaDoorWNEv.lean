/- Lemmas of the print, those that are used here. -/
import Derived.Test.YtgmdgkanfhoahaaDoorWN
/-! ### 48. N's events: append, a whole row appended, zeros appended, literals, make, stores, cuts, an element taken out -/
