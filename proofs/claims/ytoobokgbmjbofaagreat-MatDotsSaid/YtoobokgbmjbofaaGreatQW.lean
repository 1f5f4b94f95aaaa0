/- The walks in use. Conditions: none. -/
import Derived.Test.YtoobokgbmjbofaaGreatQ3W3
