/- All formulas of letter R.
   Conditions: none. -/
import Derived.Test.YtoenaheehpjmiaaR0
import Derived.Test.YtoenaheehpjmiaaR1
