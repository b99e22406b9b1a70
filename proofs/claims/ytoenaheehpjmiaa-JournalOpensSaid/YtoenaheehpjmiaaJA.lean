/- All formulas of letter J.
   Conditions: none. -/
import Derived.Test.YtoenaheehpjmiaaJ0
import Derived.Test.YtoenaheehpjmiaaJ1
import Derived.Test.YtoenaheehpjmiaaJ2
import Derived.Test.YtoenaheehpjmiaaJ3
import Derived.Test.YtoenaheehpjmiaaJ4
import Derived.Test.YtoenaheehpjmiaaJ5
