/- All formulas of letter F.
   Conditions: none. -/
import Derived.Test.YtoenaheehpjmiaaF0
import Derived.Test.YtoenaheehpjmiaaF1
import Derived.Test.YtoenaheehpjmiaaF2
