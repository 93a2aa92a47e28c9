/- Lemmas of the print, those that are used here. -/
import Derived.Test.YtgmdgkanfhoahaaDoorWWords
import Derived.Test.YtgmdgkanfhoahaaDoorWLast
/-! ### 39. Stores into a row that may begin inside its block (Q): Q_form, Q_elem, Q_seg; scalars: Q_cell, Q_putg -/
