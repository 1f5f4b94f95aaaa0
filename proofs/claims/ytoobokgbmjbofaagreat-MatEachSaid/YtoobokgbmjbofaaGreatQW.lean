/- The walks in use. Conditions: none. -/
import Derived.Test.YtoobokgbmjbofaaGreatQ6W3
